import Derived.Test.YtblfbdlhphhfnaaGreatDoorN8
import Derived.Test.YtblfbdlhphhfnaaGreatDoorN13
import Derived.Test.YtblfbdlhphhfnaaGreatDoorN14
import Derived.Test.YtblfbdlhphhfnaaGreatDoorN17
import Derived.Deep.RegionHeld3
namespace Go.Proofs.YtblfbdlhphhfnaaGreatDoor.PA
open Go.RowKit Go.Maps Go.Sort Go.Shelf Go.Proofs.YtblfbdlhphhfnaaGreatDoorW.PrintWords Go.Proofs.YtblfbdlhphhfnaaGreatDoorW.PrintLast
set_option linter.unusedVariables false
set_option linter.unusedSimpArgs false
set_option maxHeartbeats 4000000 in
set_option maxRecDepth 100000 in
theorem wrong_op_low (key : ByteArray) (op : Int) (A : Option Addr) (c : Nat) (vals : List ByteArray) (n : Int) (w : World) (hr : Kd.C Kd.string w A vals.length vals) (hc : vals.length ≤ c) (hk : key.size ≤ 140737488351232) (hs : ∀ s ∈ vals, s.size ≤ 140737488351232) (hG : GL w) (hN : isName key.data.toList = true) (hop : op < 1) (hbad : badOp op vals n = true) :
    Calls Tryz.prog 57 #[.agg #[.string key, .int .i64 op, .slice A vals.length c, .int .i64 n]] w fun e w' => e = .returned (.int .i64 (wrongP key op vals n)) ∧ Below w.heap.size w w' := by
  have hname := fun W => valset_Name.calls key (isName key.data.toList) W (by unfold valset_Name.f; rw [if_pos hk])
  have HR := Lib.hid hr
  have hnl : vals.length ≤ 9223372036854775807 := hr.2.1
  clear hr
  rw [hN] at hname
  have HN := Lib.hid hN; clear hN
  have e1 : (op == 1) = false := by simp; omega
  have e2 : (op == 2) = false := by simp; omega
  have e5 : (op == 5) = false := by simp; omega
  have e6 : (op == 6) = false := by simp; omega
  go_enter Tryz.func57, Tryz.ntmps57
  go_wp2_with (first
    | (go_at_call 26; refine (hname _).mono ?_; rintro e w2 ⟨rfl, hb⟩; obtain ⟨hcl, hfr⟩ := bcell hb; have hb1 := below_then ((Below.refl w.heap.size w).alloc (Nat.le_refl _) _) (by simp) hb; have hz : w.heap.size < w2.heap.size := by (have := hb.size; simp at this; omega))
    | (go_at_call 82; refine (wrong_any A c vals w _ (Kd.C_below HR.out hb1) hc hs (GL.of_below hG hb1)).mono ?_; rintro e w3 ⟨rfl, hb3⟩; obtain ⟨hcl3, hfr3⟩ := bcell hb3; have hz3 := hb3.size))
  all_goals (first | omega | (go_ret; refine ⟨congrArg (fun z => Ending.returned (Value.int .i64 z)) ?_, hb1⟩; unfold wrongP; rw [HN.out, hbad]; rfl))
set_option maxHeartbeats 4000000 in
set_option maxRecDepth 100000 in
theorem wrong_op_high (key : ByteArray) (op : Int) (A : Option Addr) (c : Nat) (vals : List ByteArray) (n : Int) (w : World) (hr : Kd.C Kd.string w A vals.length vals) (hc : vals.length ≤ c) (hk : key.size ≤ 140737488351232) (hs : ∀ s ∈ vals, s.size ≤ 140737488351232) (hG : GL w) (hN : isName key.data.toList = true) (hop : ¬ op < 1) (hop2 : 6 < op) (hbad : badOp op vals n = true) :
    Calls Tryz.prog 57 #[.agg #[.string key, .int .i64 op, .slice A vals.length c, .int .i64 n]] w fun e w' => e = .returned (.int .i64 (wrongP key op vals n)) ∧ Below w.heap.size w w' := by
  have hname := fun W => valset_Name.calls key (isName key.data.toList) W (by unfold valset_Name.f; rw [if_pos hk])
  have HR := Lib.hid hr
  have hnl : vals.length ≤ 9223372036854775807 := hr.2.1
  clear hr
  rw [hN] at hname
  have HN := Lib.hid hN; clear hN
  have e1 : (op == 1) = false := by simp; omega
  have e2 : (op == 2) = false := by simp; omega
  have e5 : (op == 5) = false := by simp; omega
  have e6 : (op == 6) = false := by simp; omega
  go_enter Tryz.func57, Tryz.ntmps57
  go_wp2_with (first
    | (go_at_call 26; refine (hname _).mono ?_; rintro e w2 ⟨rfl, hb⟩; obtain ⟨hcl, hfr⟩ := bcell hb; have hb1 := below_then ((Below.refl w.heap.size w).alloc (Nat.le_refl _) _) (by simp) hb; have hz : w.heap.size < w2.heap.size := by (have := hb.size; simp at this; omega))
    | (go_at_call 82; refine (wrong_any A c vals w _ (Kd.C_below HR.out hb1) hc hs (GL.of_below hG hb1)).mono ?_; rintro e w3 ⟨rfl, hb3⟩; obtain ⟨hcl3, hfr3⟩ := bcell hb3; have hz3 := hb3.size))
  all_goals (first | omega | (go_ret; refine ⟨congrArg (fun z => Ending.returned (Value.int .i64 z)) ?_, hb1⟩; unfold wrongP; rw [HN.out, hbad]; rfl))
set_option maxHeartbeats 4000000 in
set_option maxRecDepth 100000 in
theorem wrong_op_vals1 (key : ByteArray) (A : Option Addr) (c : Nat) (vals : List ByteArray) (n : Int) (w : World) (hr : Kd.C Kd.string w A vals.length vals) (hc : vals.length ≤ c) (hk : key.size ≤ 140737488351232) (hs : ∀ s ∈ vals, s.size ≤ 140737488351232) (hG : GL w) (hN : isName key.data.toList = true) (hlen : vals.length = 0) (hbad : badOp 1 vals n = true) :
    Calls Tryz.prog 57 #[.agg #[.string key, .int .i64 1, .slice A vals.length c, .int .i64 n]] w fun e w' => e = .returned (.int .i64 (wrongP key 1 vals n)) ∧ Below w.heap.size w w' := by
  have hname := fun W => valset_Name.calls key (isName key.data.toList) W (by unfold valset_Name.f; rw [if_pos hk])
  have HR := Lib.hid hr
  have hnl : vals.length ≤ 9223372036854775807 := hr.2.1
  clear hr
  rw [hN] at hname
  have HN := Lib.hid hN; clear hN
  go_enter Tryz.func57, Tryz.ntmps57
  go_wp2_with (first
    | (go_at_call 26; refine (hname _).mono ?_; rintro e w2 ⟨rfl, hb⟩; obtain ⟨hcl, hfr⟩ := bcell hb; have hb1 := below_then ((Below.refl w.heap.size w).alloc (Nat.le_refl _) _) (by simp) hb; have hz : w.heap.size < w2.heap.size := by (have := hb.size; simp at this; omega))
    | (go_at_call 82; refine (wrong_any A c vals w _ (Kd.C_below HR.out hb1) hc hs (GL.of_below hG hb1)).mono ?_; rintro e w3 ⟨rfl, hb3⟩; obtain ⟨hcl3, hfr3⟩ := bcell hb3; have hz3 := hb3.size))
  all_goals (first | omega | (go_ret; refine ⟨congrArg (fun z => Ending.returned (Value.int .i64 z)) ?_, hb1⟩; unfold wrongP; rw [HN.out, hbad]; rfl))
set_option maxHeartbeats 4000000 in
set_option maxRecDepth 100000 in
theorem wrong_op_vals2 (key : ByteArray) (A : Option Addr) (c : Nat) (vals : List ByteArray) (n : Int) (w : World) (hr : Kd.C Kd.string w A vals.length vals) (hc : vals.length ≤ c) (hk : key.size ≤ 140737488351232) (hs : ∀ s ∈ vals, s.size ≤ 140737488351232) (hG : GL w) (hN : isName key.data.toList = true) (hlen : vals.length = 0) (hbad : badOp 2 vals n = true) :
    Calls Tryz.prog 57 #[.agg #[.string key, .int .i64 2, .slice A vals.length c, .int .i64 n]] w fun e w' => e = .returned (.int .i64 (wrongP key 2 vals n)) ∧ Below w.heap.size w w' := by
  have hname := fun W => valset_Name.calls key (isName key.data.toList) W (by unfold valset_Name.f; rw [if_pos hk])
  have HR := Lib.hid hr
  have hnl : vals.length ≤ 9223372036854775807 := hr.2.1
  clear hr
  rw [hN] at hname
  have HN := Lib.hid hN; clear hN
  go_enter Tryz.func57, Tryz.ntmps57
  go_wp2_with (first
    | (go_at_call 26; refine (hname _).mono ?_; rintro e w2 ⟨rfl, hb⟩; obtain ⟨hcl, hfr⟩ := bcell hb; have hb1 := below_then ((Below.refl w.heap.size w).alloc (Nat.le_refl _) _) (by simp) hb; have hz : w.heap.size < w2.heap.size := by (have := hb.size; simp at this; omega))
    | (go_at_call 82; refine (wrong_any A c vals w _ (Kd.C_below HR.out hb1) hc hs (GL.of_below hG hb1)).mono ?_; rintro e w3 ⟨rfl, hb3⟩; obtain ⟨hcl3, hfr3⟩ := bcell hb3; have hz3 := hb3.size))
  all_goals (first | omega | (go_ret; refine ⟨congrArg (fun z => Ending.returned (Value.int .i64 z)) ?_, hb1⟩; unfold wrongP; rw [HN.out, hbad]; rfl))
set_option maxHeartbeats 4000000 in
set_option maxRecDepth 100000 in
theorem wrong_op_vals3 (key : ByteArray) (A : Option Addr) (c : Nat) (vals : List ByteArray) (n : Int) (w : World) (hr : Kd.C Kd.string w A vals.length vals) (hc : vals.length ≤ c) (hk : key.size ≤ 140737488351232) (hs : ∀ s ∈ vals, s.size ≤ 140737488351232) (hG : GL w) (hN : isName key.data.toList = true) (hlen : 0 < vals.length) (hbad : badOp 3 vals n = true) :
    Calls Tryz.prog 57 #[.agg #[.string key, .int .i64 3, .slice A vals.length c, .int .i64 n]] w fun e w' => e = .returned (.int .i64 (wrongP key 3 vals n)) ∧ Below w.heap.size w w' := by
  have hname := fun W => valset_Name.calls key (isName key.data.toList) W (by unfold valset_Name.f; rw [if_pos hk])
  have HR := Lib.hid hr
  have hnl : vals.length ≤ 9223372036854775807 := hr.2.1
  clear hr
  rw [hN] at hname
  have HN := Lib.hid hN; clear hN
  go_enter Tryz.func57, Tryz.ntmps57
  go_wp2_with (first
    | (go_at_call 26; refine (hname _).mono ?_; rintro e w2 ⟨rfl, hb⟩; obtain ⟨hcl, hfr⟩ := bcell hb; have hb1 := below_then ((Below.refl w.heap.size w).alloc (Nat.le_refl _) _) (by simp) hb; have hz : w.heap.size < w2.heap.size := by (have := hb.size; simp at this; omega))
    | (go_at_call 82; refine (wrong_any A c vals w _ (Kd.C_below HR.out hb1) hc hs (GL.of_below hG hb1)).mono ?_; rintro e w3 ⟨rfl, hb3⟩; obtain ⟨hcl3, hfr3⟩ := bcell hb3; have hz3 := hb3.size))
  all_goals (first | omega | (go_ret; refine ⟨congrArg (fun z => Ending.returned (Value.int .i64 z)) ?_, hb1⟩; unfold wrongP; rw [HN.out, hbad]; rfl))
set_option maxHeartbeats 4000000 in
set_option maxRecDepth 100000 in
theorem wrong_op_vals4 (key : ByteArray) (A : Option Addr) (c : Nat) (vals : List ByteArray) (n : Int) (w : World) (hr : Kd.C Kd.string w A vals.length vals) (hc : vals.length ≤ c) (hk : key.size ≤ 140737488351232) (hs : ∀ s ∈ vals, s.size ≤ 140737488351232) (hG : GL w) (hN : isName key.data.toList = true) (hlen : 0 < vals.length) (hbad : badOp 4 vals n = true) :
    Calls Tryz.prog 57 #[.agg #[.string key, .int .i64 4, .slice A vals.length c, .int .i64 n]] w fun e w' => e = .returned (.int .i64 (wrongP key 4 vals n)) ∧ Below w.heap.size w w' := by
  have hname := fun W => valset_Name.calls key (isName key.data.toList) W (by unfold valset_Name.f; rw [if_pos hk])
  have HR := Lib.hid hr
  have hnl : vals.length ≤ 9223372036854775807 := hr.2.1
  clear hr
  rw [hN] at hname
  have HN := Lib.hid hN; clear hN
  go_enter Tryz.func57, Tryz.ntmps57
  go_wp2_with (first
    | (go_at_call 26; refine (hname _).mono ?_; rintro e w2 ⟨rfl, hb⟩; obtain ⟨hcl, hfr⟩ := bcell hb; have hb1 := below_then ((Below.refl w.heap.size w).alloc (Nat.le_refl _) _) (by simp) hb; have hz : w.heap.size < w2.heap.size := by (have := hb.size; simp at this; omega))
    | (go_at_call 82; refine (wrong_any A c vals w _ (Kd.C_below HR.out hb1) hc hs (GL.of_below hG hb1)).mono ?_; rintro e w3 ⟨rfl, hb3⟩; obtain ⟨hcl3, hfr3⟩ := bcell hb3; have hz3 := hb3.size))
  all_goals (first | omega | (go_ret; refine ⟨congrArg (fun z => Ending.returned (Value.int .i64 z)) ?_, hb1⟩; unfold wrongP; rw [HN.out, hbad]; rfl))
set_option maxHeartbeats 4000000 in
set_option maxRecDepth 100000 in
theorem wrong_op_vals5 (key : ByteArray) (A : Option Addr) (c : Nat) (vals : List ByteArray) (n : Int) (w : World) (hr : Kd.C Kd.string w A vals.length vals) (hc : vals.length ≤ c) (hk : key.size ≤ 140737488351232) (hs : ∀ s ∈ vals, s.size ≤ 140737488351232) (hG : GL w) (hN : isName key.data.toList = true) (hlen : 0 < vals.length) (hbad : badOp 5 vals n = true) :
    Calls Tryz.prog 57 #[.agg #[.string key, .int .i64 5, .slice A vals.length c, .int .i64 n]] w fun e w' => e = .returned (.int .i64 (wrongP key 5 vals n)) ∧ Below w.heap.size w w' := by
  have hname := fun W => valset_Name.calls key (isName key.data.toList) W (by unfold valset_Name.f; rw [if_pos hk])
  have HR := Lib.hid hr
  have hnl : vals.length ≤ 9223372036854775807 := hr.2.1
  clear hr
  rw [hN] at hname
  have HN := Lib.hid hN; clear hN
  go_enter Tryz.func57, Tryz.ntmps57
  go_wp2_with (first
    | (go_at_call 26; refine (hname _).mono ?_; rintro e w2 ⟨rfl, hb⟩; obtain ⟨hcl, hfr⟩ := bcell hb; have hb1 := below_then ((Below.refl w.heap.size w).alloc (Nat.le_refl _) _) (by simp) hb; have hz : w.heap.size < w2.heap.size := by (have := hb.size; simp at this; omega))
    | (go_at_call 82; refine (wrong_any A c vals w _ (Kd.C_below HR.out hb1) hc hs (GL.of_below hG hb1)).mono ?_; rintro e w3 ⟨rfl, hb3⟩; obtain ⟨hcl3, hfr3⟩ := bcell hb3; have hz3 := hb3.size))
  all_goals (first | omega | (go_ret; refine ⟨congrArg (fun z => Ending.returned (Value.int .i64 z)) ?_, hb1⟩; unfold wrongP; rw [HN.out, hbad]; rfl))
set_option maxHeartbeats 4000000 in
set_option maxRecDepth 100000 in
theorem wrong_op_vals6 (key : ByteArray) (A : Option Addr) (c : Nat) (vals : List ByteArray) (n : Int) (w : World) (hr : Kd.C Kd.string w A vals.length vals) (hc : vals.length ≤ c) (hk : key.size ≤ 140737488351232) (hs : ∀ s ∈ vals, s.size ≤ 140737488351232) (hG : GL w) (hN : isName key.data.toList = true) (hlen : 0 < vals.length) (hbad : badOp 6 vals n = true) :
    Calls Tryz.prog 57 #[.agg #[.string key, .int .i64 6, .slice A vals.length c, .int .i64 n]] w fun e w' => e = .returned (.int .i64 (wrongP key 6 vals n)) ∧ Below w.heap.size w w' := by
  have hname := fun W => valset_Name.calls key (isName key.data.toList) W (by unfold valset_Name.f; rw [if_pos hk])
  have HR := Lib.hid hr
  have hnl : vals.length ≤ 9223372036854775807 := hr.2.1
  clear hr
  rw [hN] at hname
  have HN := Lib.hid hN; clear hN
  go_enter Tryz.func57, Tryz.ntmps57
  go_wp2_with (first
    | (go_at_call 26; refine (hname _).mono ?_; rintro e w2 ⟨rfl, hb⟩; obtain ⟨hcl, hfr⟩ := bcell hb; have hb1 := below_then ((Below.refl w.heap.size w).alloc (Nat.le_refl _) _) (by simp) hb; have hz : w.heap.size < w2.heap.size := by (have := hb.size; simp at this; omega))
    | (go_at_call 82; refine (wrong_any A c vals w _ (Kd.C_below HR.out hb1) hc hs (GL.of_below hG hb1)).mono ?_; rintro e w3 ⟨rfl, hb3⟩; obtain ⟨hcl3, hfr3⟩ := bcell hb3; have hz3 := hb3.size))
  all_goals (first | omega | (go_ret; refine ⟨congrArg (fun z => Ending.returned (Value.int .i64 z)) ?_, hb1⟩; unfold wrongP; rw [HN.out, hbad]; rfl))
set_option maxHeartbeats 4000000 in
set_option maxRecDepth 100000 in
theorem wrong_op_n1 (key : ByteArray) (A : Option Addr) (c : Nat) (vals : List ByteArray) (n : Int) (w : World) (hr : Kd.C Kd.string w A vals.length vals) (hc : vals.length ≤ c) (hk : key.size ≤ 140737488351232) (hs : ∀ s ∈ vals, s.size ≤ 140737488351232) (hG : GL w) (hN : isName key.data.toList = true) (hlen : 0 < vals.length) (hn : n ≠ 0) (hbad : badOp 1 vals n = true) :
    Calls Tryz.prog 57 #[.agg #[.string key, .int .i64 1, .slice A vals.length c, .int .i64 n]] w fun e w' => e = .returned (.int .i64 (wrongP key 1 vals n)) ∧ Below w.heap.size w w' := by
  have hname := fun W => valset_Name.calls key (isName key.data.toList) W (by unfold valset_Name.f; rw [if_pos hk])
  have HR := Lib.hid hr
  have hnl : vals.length ≤ 9223372036854775807 := hr.2.1
  clear hr
  rw [hN] at hname
  have HN := Lib.hid hN; clear hN
  go_enter Tryz.func57, Tryz.ntmps57
  go_wp2_with (first
    | (go_at_call 26; refine (hname _).mono ?_; rintro e w2 ⟨rfl, hb⟩; obtain ⟨hcl, hfr⟩ := bcell hb; have hb1 := below_then ((Below.refl w.heap.size w).alloc (Nat.le_refl _) _) (by simp) hb; have hz : w.heap.size < w2.heap.size := by (have := hb.size; simp at this; omega))
    | (go_at_call 82; refine (wrong_any A c vals w _ (Kd.C_below HR.out hb1) hc hs (GL.of_below hG hb1)).mono ?_; rintro e w3 ⟨rfl, hb3⟩; obtain ⟨hcl3, hfr3⟩ := bcell hb3; have hz3 := hb3.size))
  all_goals (first | omega | (go_ret; refine ⟨congrArg (fun z => Ending.returned (Value.int .i64 z)) ?_, hb1⟩; unfold wrongP; rw [HN.out, hbad]; rfl))
set_option maxHeartbeats 4000000 in
set_option maxRecDepth 100000 in
theorem wrong_op_n2 (key : ByteArray) (A : Option Addr) (c : Nat) (vals : List ByteArray) (n : Int) (w : World) (hr : Kd.C Kd.string w A vals.length vals) (hc : vals.length ≤ c) (hk : key.size ≤ 140737488351232) (hs : ∀ s ∈ vals, s.size ≤ 140737488351232) (hG : GL w) (hN : isName key.data.toList = true) (hlen : 0 < vals.length) (hn : n ≠ 0) (hbad : badOp 2 vals n = true) :
    Calls Tryz.prog 57 #[.agg #[.string key, .int .i64 2, .slice A vals.length c, .int .i64 n]] w fun e w' => e = .returned (.int .i64 (wrongP key 2 vals n)) ∧ Below w.heap.size w w' := by
  have hname := fun W => valset_Name.calls key (isName key.data.toList) W (by unfold valset_Name.f; rw [if_pos hk])
  have HR := Lib.hid hr
  have hnl : vals.length ≤ 9223372036854775807 := hr.2.1
  clear hr
  rw [hN] at hname
  have HN := Lib.hid hN; clear hN
  go_enter Tryz.func57, Tryz.ntmps57
  go_wp2_with (first
    | (go_at_call 26; refine (hname _).mono ?_; rintro e w2 ⟨rfl, hb⟩; obtain ⟨hcl, hfr⟩ := bcell hb; have hb1 := below_then ((Below.refl w.heap.size w).alloc (Nat.le_refl _) _) (by simp) hb; have hz : w.heap.size < w2.heap.size := by (have := hb.size; simp at this; omega))
    | (go_at_call 82; refine (wrong_any A c vals w _ (Kd.C_below HR.out hb1) hc hs (GL.of_below hG hb1)).mono ?_; rintro e w3 ⟨rfl, hb3⟩; obtain ⟨hcl3, hfr3⟩ := bcell hb3; have hz3 := hb3.size))
  all_goals (first | omega | (go_ret; refine ⟨congrArg (fun z => Ending.returned (Value.int .i64 z)) ?_, hb1⟩; unfold wrongP; rw [HN.out, hbad]; rfl))
set_option maxHeartbeats 4000000 in
set_option maxRecDepth 100000 in
theorem wrong_op_n3 (key : ByteArray) (A : Option Addr) (c : Nat) (vals : List ByteArray) (n : Int) (w : World) (hr : Kd.C Kd.string w A vals.length vals) (hc : vals.length ≤ c) (hk : key.size ≤ 140737488351232) (hs : ∀ s ∈ vals, s.size ≤ 140737488351232) (hG : GL w) (hN : isName key.data.toList = true) (hlen : vals.length = 0) (hn : n ≠ 0) (hbad : badOp 3 vals n = true) :
    Calls Tryz.prog 57 #[.agg #[.string key, .int .i64 3, .slice A vals.length c, .int .i64 n]] w fun e w' => e = .returned (.int .i64 (wrongP key 3 vals n)) ∧ Below w.heap.size w w' := by
  have hname := fun W => valset_Name.calls key (isName key.data.toList) W (by unfold valset_Name.f; rw [if_pos hk])
  have HR := Lib.hid hr
  have hnl : vals.length ≤ 9223372036854775807 := hr.2.1
  clear hr
  rw [hN] at hname
  have HN := Lib.hid hN; clear hN
  go_enter Tryz.func57, Tryz.ntmps57
  go_wp2_with (first
    | (go_at_call 26; refine (hname _).mono ?_; rintro e w2 ⟨rfl, hb⟩; obtain ⟨hcl, hfr⟩ := bcell hb; have hb1 := below_then ((Below.refl w.heap.size w).alloc (Nat.le_refl _) _) (by simp) hb; have hz : w.heap.size < w2.heap.size := by (have := hb.size; simp at this; omega))
    | (go_at_call 82; refine (wrong_any A c vals w _ (Kd.C_below HR.out hb1) hc hs (GL.of_below hG hb1)).mono ?_; rintro e w3 ⟨rfl, hb3⟩; obtain ⟨hcl3, hfr3⟩ := bcell hb3; have hz3 := hb3.size))
  all_goals (first | omega | (go_ret; refine ⟨congrArg (fun z => Ending.returned (Value.int .i64 z)) ?_, hb1⟩; unfold wrongP; rw [HN.out, hbad]; rfl))
set_option maxHeartbeats 4000000 in
set_option maxRecDepth 100000 in
theorem wrong_op_n4 (key : ByteArray) (A : Option Addr) (c : Nat) (vals : List ByteArray) (n : Int) (w : World) (hr : Kd.C Kd.string w A vals.length vals) (hc : vals.length ≤ c) (hk : key.size ≤ 140737488351232) (hs : ∀ s ∈ vals, s.size ≤ 140737488351232) (hG : GL w) (hN : isName key.data.toList = true) (hlen : vals.length = 0) (hn : n ≠ 0) (hbad : badOp 4 vals n = true) :
    Calls Tryz.prog 57 #[.agg #[.string key, .int .i64 4, .slice A vals.length c, .int .i64 n]] w fun e w' => e = .returned (.int .i64 (wrongP key 4 vals n)) ∧ Below w.heap.size w w' := by
  have hname := fun W => valset_Name.calls key (isName key.data.toList) W (by unfold valset_Name.f; rw [if_pos hk])
  have HR := Lib.hid hr
  have hnl : vals.length ≤ 9223372036854775807 := hr.2.1
  clear hr
  rw [hN] at hname
  have HN := Lib.hid hN; clear hN
  go_enter Tryz.func57, Tryz.ntmps57
  go_wp2_with (first
    | (go_at_call 26; refine (hname _).mono ?_; rintro e w2 ⟨rfl, hb⟩; obtain ⟨hcl, hfr⟩ := bcell hb; have hb1 := below_then ((Below.refl w.heap.size w).alloc (Nat.le_refl _) _) (by simp) hb; have hz : w.heap.size < w2.heap.size := by (have := hb.size; simp at this; omega))
    | (go_at_call 82; refine (wrong_any A c vals w _ (Kd.C_below HR.out hb1) hc hs (GL.of_below hG hb1)).mono ?_; rintro e w3 ⟨rfl, hb3⟩; obtain ⟨hcl3, hfr3⟩ := bcell hb3; have hz3 := hb3.size))
  all_goals (first | omega | (go_ret; refine ⟨congrArg (fun z => Ending.returned (Value.int .i64 z)) ?_, hb1⟩; unfold wrongP; rw [HN.out, hbad]; rfl))
set_option maxHeartbeats 4000000 in
set_option maxRecDepth 100000 in
theorem wrong_op_lo5 (key : ByteArray) (A : Option Addr) (c : Nat) (vals : List ByteArray) (n : Int) (w : World) (hr : Kd.C Kd.string w A vals.length vals) (hc : vals.length ≤ c) (hk : key.size ≤ 140737488351232) (hs : ∀ s ∈ vals, s.size ≤ 140737488351232) (hG : GL w) (hN : isName key.data.toList = true) (hlen : vals.length = 0) (hn : n < -2147483648) (hbad : badOp 5 vals n = true) :
    Calls Tryz.prog 57 #[.agg #[.string key, .int .i64 5, .slice A vals.length c, .int .i64 n]] w fun e w' => e = .returned (.int .i64 (wrongP key 5 vals n)) ∧ Below w.heap.size w w' := by
  have hname := fun W => valset_Name.calls key (isName key.data.toList) W (by unfold valset_Name.f; rw [if_pos hk])
  have HR := Lib.hid hr
  have hnl : vals.length ≤ 9223372036854775807 := hr.2.1
  clear hr
  rw [hN] at hname
  have HN := Lib.hid hN; clear hN
  go_enter Tryz.func57, Tryz.ntmps57
  go_wp2_with (first
    | (go_at_call 26; refine (hname _).mono ?_; rintro e w2 ⟨rfl, hb⟩; obtain ⟨hcl, hfr⟩ := bcell hb; have hb1 := below_then ((Below.refl w.heap.size w).alloc (Nat.le_refl _) _) (by simp) hb; have hz : w.heap.size < w2.heap.size := by (have := hb.size; simp at this; omega))
    | (go_at_call 82; refine (wrong_any A c vals w _ (Kd.C_below HR.out hb1) hc hs (GL.of_below hG hb1)).mono ?_; rintro e w3 ⟨rfl, hb3⟩; obtain ⟨hcl3, hfr3⟩ := bcell hb3; have hz3 := hb3.size))
  all_goals (first | omega | (go_ret; refine ⟨congrArg (fun z => Ending.returned (Value.int .i64 z)) ?_, hb1⟩; unfold wrongP; rw [HN.out, hbad]; rfl))
set_option maxHeartbeats 4000000 in
set_option maxRecDepth 100000 in
theorem wrong_op_hi5 (key : ByteArray) (A : Option Addr) (c : Nat) (vals : List ByteArray) (n : Int) (w : World) (hr : Kd.C Kd.string w A vals.length vals) (hc : vals.length ≤ c) (hk : key.size ≤ 140737488351232) (hs : ∀ s ∈ vals, s.size ≤ 140737488351232) (hG : GL w) (hN : isName key.data.toList = true) (hlen : vals.length = 0) (hn : 2147483648 < n) (hbad : badOp 5 vals n = true) :
    Calls Tryz.prog 57 #[.agg #[.string key, .int .i64 5, .slice A vals.length c, .int .i64 n]] w fun e w' => e = .returned (.int .i64 (wrongP key 5 vals n)) ∧ Below w.heap.size w w' := by
  have hname := fun W => valset_Name.calls key (isName key.data.toList) W (by unfold valset_Name.f; rw [if_pos hk])
  have HR := Lib.hid hr
  have hnl : vals.length ≤ 9223372036854775807 := hr.2.1
  clear hr
  rw [hN] at hname
  have HN := Lib.hid hN; clear hN
  go_enter Tryz.func57, Tryz.ntmps57
  go_wp2_with (first
    | (go_at_call 26; refine (hname _).mono ?_; rintro e w2 ⟨rfl, hb⟩; obtain ⟨hcl, hfr⟩ := bcell hb; have hb1 := below_then ((Below.refl w.heap.size w).alloc (Nat.le_refl _) _) (by simp) hb; have hz : w.heap.size < w2.heap.size := by (have := hb.size; simp at this; omega))
    | (go_at_call 82; refine (wrong_any A c vals w _ (Kd.C_below HR.out hb1) hc hs (GL.of_below hG hb1)).mono ?_; rintro e w3 ⟨rfl, hb3⟩; obtain ⟨hcl3, hfr3⟩ := bcell hb3; have hz3 := hb3.size))
  all_goals (first | omega | (go_ret; refine ⟨congrArg (fun z => Ending.returned (Value.int .i64 z)) ?_, hb1⟩; unfold wrongP; rw [HN.out, hbad]; rfl))
set_option maxHeartbeats 4000000 in
set_option maxRecDepth 100000 in
theorem wrong_op_lo6 (key : ByteArray) (A : Option Addr) (c : Nat) (vals : List ByteArray) (n : Int) (w : World) (hr : Kd.C Kd.string w A vals.length vals) (hc : vals.length ≤ c) (hk : key.size ≤ 140737488351232) (hs : ∀ s ∈ vals, s.size ≤ 140737488351232) (hG : GL w) (hN : isName key.data.toList = true) (hlen : vals.length = 0) (hn : n < -2147483648) (hbad : badOp 6 vals n = true) :
    Calls Tryz.prog 57 #[.agg #[.string key, .int .i64 6, .slice A vals.length c, .int .i64 n]] w fun e w' => e = .returned (.int .i64 (wrongP key 6 vals n)) ∧ Below w.heap.size w w' := by
  have hname := fun W => valset_Name.calls key (isName key.data.toList) W (by unfold valset_Name.f; rw [if_pos hk])
  have HR := Lib.hid hr
  have hnl : vals.length ≤ 9223372036854775807 := hr.2.1
  clear hr
  rw [hN] at hname
  have HN := Lib.hid hN; clear hN
  go_enter Tryz.func57, Tryz.ntmps57
  go_wp2_with (first
    | (go_at_call 26; refine (hname _).mono ?_; rintro e w2 ⟨rfl, hb⟩; obtain ⟨hcl, hfr⟩ := bcell hb; have hb1 := below_then ((Below.refl w.heap.size w).alloc (Nat.le_refl _) _) (by simp) hb; have hz : w.heap.size < w2.heap.size := by (have := hb.size; simp at this; omega))
    | (go_at_call 82; refine (wrong_any A c vals w _ (Kd.C_below HR.out hb1) hc hs (GL.of_below hG hb1)).mono ?_; rintro e w3 ⟨rfl, hb3⟩; obtain ⟨hcl3, hfr3⟩ := bcell hb3; have hz3 := hb3.size))
  all_goals (first | omega | (go_ret; refine ⟨congrArg (fun z => Ending.returned (Value.int .i64 z)) ?_, hb1⟩; unfold wrongP; rw [HN.out, hbad]; rfl))
set_option maxHeartbeats 4000000 in
set_option maxRecDepth 100000 in
theorem wrong_op_hi6 (key : ByteArray) (A : Option Addr) (c : Nat) (vals : List ByteArray) (n : Int) (w : World) (hr : Kd.C Kd.string w A vals.length vals) (hc : vals.length ≤ c) (hk : key.size ≤ 140737488351232) (hs : ∀ s ∈ vals, s.size ≤ 140737488351232) (hG : GL w) (hN : isName key.data.toList = true) (hlen : vals.length = 0) (hn : 2147483648 < n) (hbad : badOp 6 vals n = true) :
    Calls Tryz.prog 57 #[.agg #[.string key, .int .i64 6, .slice A vals.length c, .int .i64 n]] w fun e w' => e = .returned (.int .i64 (wrongP key 6 vals n)) ∧ Below w.heap.size w w' := by
  have hname := fun W => valset_Name.calls key (isName key.data.toList) W (by unfold valset_Name.f; rw [if_pos hk])
  have HR := Lib.hid hr
  have hnl : vals.length ≤ 9223372036854775807 := hr.2.1
  clear hr
  rw [hN] at hname
  have HN := Lib.hid hN; clear hN
  go_enter Tryz.func57, Tryz.ntmps57
  go_wp2_with (first
    | (go_at_call 26; refine (hname _).mono ?_; rintro e w2 ⟨rfl, hb⟩; obtain ⟨hcl, hfr⟩ := bcell hb; have hb1 := below_then ((Below.refl w.heap.size w).alloc (Nat.le_refl _) _) (by simp) hb; have hz : w.heap.size < w2.heap.size := by (have := hb.size; simp at this; omega))
    | (go_at_call 82; refine (wrong_any A c vals w _ (Kd.C_below HR.out hb1) hc hs (GL.of_below hG hb1)).mono ?_; rintro e w3 ⟨rfl, hb3⟩; obtain ⟨hcl3, hfr3⟩ := bcell hb3; have hz3 := hb3.size))
  all_goals (first | omega | (go_ret; refine ⟨congrArg (fun z => Ending.returned (Value.int .i64 z)) ?_, hb1⟩; unfold wrongP; rw [HN.out, hbad]; rfl))
end Go.Proofs.YtblfbdlhphhfnaaGreatDoor.PA
namespace Go.Proofs.YtblfbdlhphhfnaaGreatDoor.PA
open Go.RowKit Go.Maps Go.Sort Go.Shelf Go.Proofs.YtblfbdlhphhfnaaGreatDoorW.PrintWords Go.Proofs.YtblfbdlhphhfnaaGreatDoorW.PrintLast
set_option linter.unusedVariables false
set_option linter.unusedSimpArgs false
set_option maxHeartbeats 4000000 in
set_option maxRecDepth 100000 in
theorem wrong_op_name (key : ByteArray) (op : Int) (A : Option Addr) (c : Nat) (vals : List ByteArray) (n : Int) (w : World) (hr : Kd.C Kd.string w A vals.length vals) (hc : vals.length ≤ c) (hk : key.size ≤ 140737488351232) (hs : ∀ s ∈ vals, s.size ≤ 140737488351232) (hG : GL w) (hN : isName key.data.toList = false) :
    Calls Tryz.prog 57 #[.agg #[.string key, .int .i64 op, .slice A vals.length c, .int .i64 n]] w fun e w' => e = .returned (.int .i64 (wrongP key op vals n)) ∧ Below w.heap.size w w' := by
  have hname := fun W => valset_Name.calls key (isName key.data.toList) W (by unfold valset_Name.f; rw [if_pos hk])
  have HR := Lib.hid hr
  have hnl : vals.length ≤ 9223372036854775807 := hr.2.1
  clear hr
  rw [hN] at hname
  have HN := Lib.hid hN; clear hN
  go_enter Tryz.func57, Tryz.ntmps57
  go_wp2_with (first
    | (go_at_call 26; refine (hname _).mono ?_; rintro e w2 ⟨rfl, hb⟩; obtain ⟨hcl, hfr⟩ := bcell hb; have hb1 := below_then ((Below.refl w.heap.size w).alloc (Nat.le_refl _) _) (by simp) hb; have hz : w.heap.size < w2.heap.size := by (have := hb.size; simp at this; omega))
    | (go_at_call 82; refine (wrong_any A c vals w _ (Kd.C_below HR.out hb1) hc hs (GL.of_below hG hb1)).mono ?_; rintro e w3 ⟨rfl, hb3⟩; obtain ⟨hcl3, hfr3⟩ := bcell hb3; have hz3 := hb3.size))
  all_goals (go_ret; refine ⟨congrArg (fun z => Ending.returned (Value.int .i64 z)) ?_, hb1⟩; unfold wrongP; rw [HN.out]; rfl)
theorem wrong_walk (key : ByteArray) (op : Int) (A : Option Addr) (c : Nat) (vals : List ByteArray) (n : Int) (w : World) (hr : Kd.C Kd.string w A vals.length vals) (hc : vals.length ≤ c) (hk : key.size ≤ 140737488351232) (hs : ∀ s ∈ vals, s.size ≤ 140737488351232) (hG : GL w) :
    Calls Tryz.prog 57 #[.agg #[.string key, .int .i64 op, .slice A vals.length c, .int .i64 n]] w fun e w' => e = .returned (.int .i64 (wrongP key op vals n)) ∧ Below w.heap.size w w' := by
  cases hN : isName key.data.toList with
  | false => exact wrong_op_name key op A c vals n w hr hc hk hs hG hN
  | true =>
    by_cases h1 : op < 1
    · exact wrong_op_low key op A c vals n w hr hc hk hs hG hN h1 (by simp [badOp, h1])
    by_cases h6 : 6 < op
    · exact wrong_op_high key op A c vals n w hr hc hk hs hG hN h1 h6 (by simp [badOp, h6])
    have hcs : op = 1 ∨ op = 2 ∨ op = 3 ∨ op = 4 ∨ op = 5 ∨ op = 6 := by omega
    rcases hcs with h | h | h | h | h | h <;> subst h
    · by_cases hl : 0 < vals.length
      · by_cases hn : n = 0
        · subst hn; exact wrong_op1 key A c vals w hr hc hk hs hG hN hl
        · exact wrong_op_n1 key A c vals n w hr hc hk hs hG hN hl hn (by simp [badOp, hn])
      · exact wrong_op_vals1 key A c vals n w hr hc hk hs hG hN (by omega) (by simp [badOp, hl])
    · by_cases hl : 0 < vals.length
      · by_cases hn : n = 0
        · subst hn; exact wrong_op2 key A c vals w hr hc hk hs hG hN hl
        · exact wrong_op_n2 key A c vals n w hr hc hk hs hG hN hl hn (by simp [badOp, hn])
      · exact wrong_op_vals2 key A c vals n w hr hc hk hs hG hN (by omega) (by simp [badOp, hl])
    · by_cases hl : 0 < vals.length
      · exact wrong_op_vals3 key A c vals n w hr hc hk hs hG hN hl (by simp [badOp, hl])
      · by_cases hn : n = 0
        · subst hn; exact wrong_op3 key A c vals w hr hc hk hs hG hN (by omega)
        · exact wrong_op_n3 key A c vals n w hr hc hk hs hG hN (by omega) hn (by simp [badOp, hn])
    · by_cases hl : 0 < vals.length
      · exact wrong_op_vals4 key A c vals n w hr hc hk hs hG hN hl (by simp [badOp, hl])
      · by_cases hn : n = 0
        · subst hn; exact wrong_op4 key A c vals w hr hc hk hs hG hN (by omega)
        · exact wrong_op_n4 key A c vals n w hr hc hk hs hG hN (by omega) hn (by simp [badOp, hn])
    · by_cases hl : 0 < vals.length
      · exact wrong_op_vals5 key A c vals n w hr hc hk hs hG hN hl (by simp [badOp, hl])
      · by_cases hn : n < -2147483648
        · exact wrong_op_lo5 key A c vals n w hr hc hk hs hG hN (by omega) hn (by simp [badOp, hn])
        · by_cases hn2 : 2147483648 < n
          · exact wrong_op_hi5 key A c vals n w hr hc hk hs hG hN (by omega) hn2 (by simp [badOp, hn2])
          · exact wrong_op5 key A c vals n w hr hc hk hs hG hN (by omega) hn hn2
    · by_cases hl : 0 < vals.length
      · exact wrong_op_vals6 key A c vals n w hr hc hk hs hG hN hl (by simp [badOp, hl])
      · by_cases hn : n < -2147483648
        · exact wrong_op_lo6 key A c vals n w hr hc hk hs hG hN (by omega) hn (by simp [badOp, hn])
        · by_cases hn2 : 2147483648 < n
          · exact wrong_op_hi6 key A c vals n w hr hc hk hs hG hN (by omega) hn2 (by simp [badOp, hn2])
          · exact wrong_op6 key A c vals n w hr hc hk hs hG hN (by omega) hn hn2
end Go.Proofs.YtblfbdlhphhfnaaGreatDoor.PA
namespace Go.Proofs
open Go.RowKit Go.Maps Go.Sort Go.Shelf
theorem Tryz.sortsLay (m : Nat) : AnyZ.SortsIn Tryz.prog Tryz.sortedLay_ren Fence.wide m :=
  ⟨fun blk off cap ss W hH hblk hsz => callsIn_wide.2 (AnyM.slices_Sort_string Tryz.sortLay blk off cap ss W hH hblk hsz),
   fun p cap W => callsIn_wide.2 (AnyM.slices_Sort_string_none Tryz.sortLay p cap W)⟩
theorem Tryz.keysAt (mb : Option Nat) (W : World) : CallsIn Fence.wide 5 Tryz.prog 60 #[.map mb] W fun e w' => e = .returned (.func (.func 87) #[] #[.pointer (some ⟨W.heap.size, 0, none⟩)]) ∧ w' = W.alloc (.cells #[.map mb] 75) :=
  AnyZ.keys_in Tryz.keysLay Fence.wide 5 trivial rfl mb W
set_option maxHeartbeats 1000000 in
theorem Tryz.sortedAt {H : Type} (b nn : Nat) (D0 : DataW H) (R : Value → Option (DataW H × List MemPlace)) (w : World) (hown : w.ownsMap Tryz.prog 9 R b nn D0) (hmax : Maps.size D0 ≤ maxLen) (hbytes : Maps.size D0 * 16 ≤ 140737488355328) :
    CallsIn Fence.wide 5 Tryz.prog 59 #[.func (.func 87) #[] #[.pointer (some ⟨w.heap.size, 0, none⟩)]] (w.alloc (.cells #[.map (some b)] 75)) fun e w' => ∃ (v : Value) (ss : List (List UInt8)), e = .returned v ∧ ss.Perm (strKeys D0) ∧
      w'.ownsRow (w.alloc (.cells #[.map (some b)] 75)).heap.size 9 1 v ss.length ((ss.mergeSort (fun x y => decide (x ≤ y))).map encStr) ∧ (v = .slice none 0 0 ↔ ss = []) ∧ Below (w.alloc (.cells #[.map (some b)] 75)).heap.size (w.alloc (.cells #[.map (some b)] 75)) w' := by
  have hbl := hown.lt
  have hseq : SeqGives Fence.wide 2 Tryz.prog 87 #[.pointer (some ⟨w.heap.size, 0, none⟩)] encStr (fun ss => ss.Perm (strKeys D0)) (Maps.size D0) (w.alloc (.cells #[.map (some b)] 75)) :=
    AnyZ.keys_gives (ρ := Tryz.keysLay_ren) { Tryz.keysLay with } Fence.wide _ trivial rfl (by omega) w.heap.size b nn D0 _ (by simp) (by simp) (by
      obtain ⟨es, clock, hb, Ft, hs, hD⟩ := hown
      exact ⟨es, clock, (Below.heap_alloc _ _ b hbl).trans hb, Ft, hs, hD⟩)
  exact AnyZ.sorted_in Tryz.sortedLay Fence.wide 5 trivial trivial trivial trivial rfl (by omega) (Tryz.sortsLay _) (enters_of Tryz.func86 (by kernel_rfl) rfl) 87 #[.pointer (some ⟨w.heap.size, 0, none⟩)] trivial (enters_of Tryz.func87 (by kernel_rfl) rfl) _ _ hmax hbytes _ hseq
end Go.Proofs
