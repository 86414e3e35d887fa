import Derived.Test.YtblfbdlhphhfnaaGreatDoorN13
import Derived.Test.YtblfbdlhphhfnaaGreatDoorN14
import Derived.Deep.RegionHeld3
namespace Go.Proofs.YtblfbdlhphhfnaaGreatDoor.PA
open Go.RowKit Go.Maps Go.Sort Go.Shelf Go.Proofs.YtblfbdlhphhfnaaGreatDoorW.PrintWords Go.Proofs.YtblfbdlhphhfnaaGreatDoorW.PrintLast
set_option linter.unusedVariables false
set_option linter.unusedSimpArgs false
set_option maxHeartbeats 4000000 in
set_option maxRecDepth 100000 in
theorem wrong_op2 (key : ByteArray) (A : Option Addr) (c : Nat) (vals : List ByteArray) (w : World) (hr : Kd.C Kd.string w A vals.length vals) (hc : vals.length ≤ c) (hk : key.size ≤ 140737488351232) (hs : ∀ s ∈ vals, s.size ≤ 140737488351232) (hG : GL w) (hN : isName key.data.toList = true) (hlen : 0 < vals.length) :
    Calls Tryz.prog 57 #[.agg #[.string key, .int .i64 2, .slice A vals.length c, .int .i64 0]] w fun e w' => e = .returned (.int .i64 (wrongP key 2 vals 0)) ∧ Below w.heap.size w w' := by
  have hname := fun W => valset_Name.calls key (isName key.data.toList) W (by unfold valset_Name.f; rw [if_pos hk])
  have HR := Lib.hid hr
  have hnl : vals.length ≤ 9223372036854775807 := hr.2.1
  clear hr
  rw [hN] at hname
  have HN := Lib.hid hN; clear hN
  go_enter Tryz.func57, Tryz.ntmps57
  go_wp2_with (first
    | (go_at_call 26; refine (hname _).mono ?_; rintro e w2 ⟨rfl, hb⟩; obtain ⟨hcl, hfr⟩ := bcell hb; have hb1 := below_then ((Below.refl w.heap.size w).alloc (Nat.le_refl _) _) (by simp) hb; have hz : w.heap.size < w2.heap.size := by (have := hb.size; simp at this; omega))
    | (go_at_call 82; refine (wrong_any A c vals w _ (Kd.C_below HR.out hb1) hc hs (GL.of_below hG hb1)).mono ?_; rintro e w3 ⟨rfl, hb3⟩; obtain ⟨hcl3, hfr3⟩ := bcell hb3; have hz3 := hb3.size))
  all_goals first
    | omega
    | (go_ret; refine ⟨congrArg (fun z => Ending.returned (Value.int .i64 z)) ?_, by first | exact hb1 | exact below_then hb1 hb1.size hb3⟩; unfold wrongP badOp; rw [HN.out]; (first | (have hq : 8 < vals.length := by omega) | (have hq : ¬ 8 < vals.length := by omega)); simp [*])
    | (have hcell : w3.cell? ⟨w.heap.size, 2, none⟩ = some (.slice A vals.length c) := by (rw [hcl3 _ _ hz, hcl _ _ (by simp)]; simp)
       have hb5 := below_then hb1 hb1.size hb3
       have hz5 : w.heap.size < w3.heap.size := by omega
       have hcellA : ∀ o, (w3.alloc o).cell? ⟨w.heap.size, 2, none⟩ = some (.slice A vals.length c) := fun o => pw_cell_below ((Below.refl _ w3).alloc (Nat.le_refl _) _) hcell
       go_region_with (first | (go_at_call 42; refine (group_one _ (by first | exact heap_alloc_new _ _ | exact blk_drew (heap_alloc_new _ _)) (by first | exact Kd.C_below HR.out (hb5.alloc hb5.size _) | exact Kd.C_below HR.out (below_drew (hb5.alloc hb5.size _))) hc hs (by omega)).mono ?_; rintro e w4 ⟨b, rfl, hge, hset, hb4⟩; have hln := fun ty => run_set_len hset ty; have hS4 : w4.cell? ⟨w.heap.size, 2, none⟩ = some (.slice A vals.length c) := pw_cell_below hb4 (by first | exact pw_cell_below ((Below.refl _ w3).alloc (Nat.le_refl _) _) hcell | exact pw_cell_below (below_drew ((Below.refl _ w3).alloc (Nat.le_refl _) _)) hcell)))
       all_goals (go_wp2_with fail)
       all_goals (go_ret)
       all_goals (refine ⟨congrArg (fun z => Ending.returned (Value.int .i64 z)) ?_, by first | exact below_then hb5 hb5.size (below_then (below_drew ((Below.refl _ w3).alloc (Nat.le_refl _) _)) (by simp) hb4) | exact below_then hb5 hb5.size (below_then ((Below.refl _ w3).alloc (Nat.le_refl _) _) (by simp) hb4)⟩; unfold wrongP badOp; rw [HN.out]; (first | (have hq : 8 < vals.length := by omega) | (have hq : ¬ 8 < vals.length := by omega)); simp [*]))
end Go.Proofs.YtblfbdlhphhfnaaGreatDoor.PA
namespace Go.Proofs.YtblfbdlhphhfnaaGreatDoor.PA
open Go.RowKit Go.Maps Go.Sort Go.Shelf Go.Proofs.YtblfbdlhphhfnaaGreatDoorW.PrintWords Go.Proofs.YtblfbdlhphhfnaaGreatDoorW.PrintLast
set_option linter.unusedVariables false
set_option linter.unusedSimpArgs false
set_option maxHeartbeats 4000000 in
set_option maxRecDepth 100000 in
theorem wrong_op3 (key : ByteArray) (A : Option Addr) (c : Nat) (vals : List ByteArray) (w : World) (hr : Kd.C Kd.string w A vals.length vals) (hc : vals.length ≤ c) (hk : key.size ≤ 140737488351232) (hs : ∀ s ∈ vals, s.size ≤ 140737488351232) (hG : GL w) (hN : isName key.data.toList = true) (hlen : vals.length = 0) :
    Calls Tryz.prog 57 #[.agg #[.string key, .int .i64 3, .slice A vals.length c, .int .i64 0]] w fun e w' => e = .returned (.int .i64 (wrongP key 3 vals 0)) ∧ Below w.heap.size w w' := by
  have hname := fun W => valset_Name.calls key (isName key.data.toList) W (by unfold valset_Name.f; rw [if_pos hk])
  have HR := Lib.hid hr
  have hnl : vals.length ≤ 9223372036854775807 := hr.2.1
  clear hr
  rw [hN] at hname
  have HN := Lib.hid hN; clear hN
  have HL := Lib.hid hlen
  have hlt : (0 < vals.length) = False := by simp [hlen]
  clear hlen
  go_enter Tryz.func57, Tryz.ntmps57
  go_wp2_with (first
    | (go_at_call 26; refine (hname _).mono ?_; rintro e w2 ⟨rfl, hb⟩; obtain ⟨hcl, hfr⟩ := bcell hb; have hb1 := below_then ((Below.refl w.heap.size w).alloc (Nat.le_refl _) _) (by simp) hb; have hz : w.heap.size < w2.heap.size := by (have := hb.size; simp at this; omega))
    | (go_at_call 82; refine (wrong_any A c vals w _ (Kd.C_below HR.out hb1) hc hs (GL.of_below hG hb1)).mono ?_; rintro e w3 ⟨rfl, hb3⟩; obtain ⟨hcl3, hfr3⟩ := bcell hb3; have hz3 := hb3.size))
  all_goals first
    | (have hlen := HL.out; omega)
    | (go_ret; refine ⟨congrArg (fun z => Ending.returned (Value.int .i64 z)) ?_, by first | exact hb1 | exact below_then hb1 hb1.size hb3⟩; unfold wrongP badOp; rw [HN.out]; have hlen := HL.out; first | (exfalso; omega) | ((first | (have hq : 8 < vals.length := by omega) | (have hq : ¬ 8 < vals.length := by omega)); simp [*]))
    | (have hcell : w3.cell? ⟨w.heap.size, 2, none⟩ = some (.slice A vals.length c) := by (rw [hcl3 _ _ hz, hcl _ _ (by simp)]; simp)
       have hb5 := below_then hb1 hb1.size hb3
       have hz5 : w.heap.size < w3.heap.size := by omega
       have hcellA : ∀ o, (w3.alloc o).cell? ⟨w.heap.size, 2, none⟩ = some (.slice A vals.length c) := fun o => pw_cell_below ((Below.refl _ w3).alloc (Nat.le_refl _) _) hcell
       go_region_with (first | (go_at_call 42; refine (group_one _ (by first | exact heap_alloc_new _ _ | exact blk_drew (heap_alloc_new _ _)) (by first | exact Kd.C_below HR.out (hb5.alloc hb5.size _) | exact Kd.C_below HR.out (below_drew (hb5.alloc hb5.size _))) hc hs (by omega)).mono ?_; rintro e w4 ⟨b, rfl, hge, hset, hb4⟩; have hln := fun ty => run_set_len hset ty; have hS4 : w4.cell? ⟨w.heap.size, 2, none⟩ = some (.slice A vals.length c) := pw_cell_below hb4 (by first | exact pw_cell_below ((Below.refl _ w3).alloc (Nat.le_refl _) _) hcell | exact pw_cell_below (below_drew ((Below.refl _ w3).alloc (Nat.le_refl _) _)) hcell)))
       all_goals (go_wp2_with fail)
       all_goals (go_ret)
       all_goals (refine ⟨congrArg (fun z => Ending.returned (Value.int .i64 z)) ?_, by first | exact below_then hb5 hb5.size (below_then (below_drew ((Below.refl _ w3).alloc (Nat.le_refl _) _)) (by simp) hb4) | exact below_then hb5 hb5.size (below_then ((Below.refl _ w3).alloc (Nat.le_refl _) _) (by simp) hb4)⟩; unfold wrongP badOp; rw [HN.out]; have hlen := HL.out; first | (exfalso; omega) | ((first | (have hq : 8 < vals.length := by omega) | (have hq : ¬ 8 < vals.length := by omega)); simp [*])))
set_option maxHeartbeats 4000000 in
set_option maxRecDepth 100000 in
theorem wrong_op4 (key : ByteArray) (A : Option Addr) (c : Nat) (vals : List ByteArray) (w : World) (hr : Kd.C Kd.string w A vals.length vals) (hc : vals.length ≤ c) (hk : key.size ≤ 140737488351232) (hs : ∀ s ∈ vals, s.size ≤ 140737488351232) (hG : GL w) (hN : isName key.data.toList = true) (hlen : vals.length = 0) :
    Calls Tryz.prog 57 #[.agg #[.string key, .int .i64 4, .slice A vals.length c, .int .i64 0]] w fun e w' => e = .returned (.int .i64 (wrongP key 4 vals 0)) ∧ Below w.heap.size w w' := by
  have hname := fun W => valset_Name.calls key (isName key.data.toList) W (by unfold valset_Name.f; rw [if_pos hk])
  have HR := Lib.hid hr
  have hnl : vals.length ≤ 9223372036854775807 := hr.2.1
  clear hr
  rw [hN] at hname
  have HN := Lib.hid hN; clear hN
  have HL := Lib.hid hlen
  have hlt : (0 < vals.length) = False := by simp [hlen]
  clear hlen
  go_enter Tryz.func57, Tryz.ntmps57
  go_wp2_with (first
    | (go_at_call 26; refine (hname _).mono ?_; rintro e w2 ⟨rfl, hb⟩; obtain ⟨hcl, hfr⟩ := bcell hb; have hb1 := below_then ((Below.refl w.heap.size w).alloc (Nat.le_refl _) _) (by simp) hb; have hz : w.heap.size < w2.heap.size := by (have := hb.size; simp at this; omega))
    | (go_at_call 82; refine (wrong_any A c vals w _ (Kd.C_below HR.out hb1) hc hs (GL.of_below hG hb1)).mono ?_; rintro e w3 ⟨rfl, hb3⟩; obtain ⟨hcl3, hfr3⟩ := bcell hb3; have hz3 := hb3.size))
  all_goals first
    | (have hlen := HL.out; omega)
    | (go_ret; refine ⟨congrArg (fun z => Ending.returned (Value.int .i64 z)) ?_, by first | exact hb1 | exact below_then hb1 hb1.size hb3⟩; unfold wrongP badOp; rw [HN.out]; have hlen := HL.out; first | (exfalso; omega) | ((first | (have hq : 8 < vals.length := by omega) | (have hq : ¬ 8 < vals.length := by omega)); simp [*]))
    | (have hcell : w3.cell? ⟨w.heap.size, 2, none⟩ = some (.slice A vals.length c) := by (rw [hcl3 _ _ hz, hcl _ _ (by simp)]; simp)
       have hb5 := below_then hb1 hb1.size hb3
       have hz5 : w.heap.size < w3.heap.size := by omega
       have hcellA : ∀ o, (w3.alloc o).cell? ⟨w.heap.size, 2, none⟩ = some (.slice A vals.length c) := fun o => pw_cell_below ((Below.refl _ w3).alloc (Nat.le_refl _) _) hcell
       go_region_with (first | (go_at_call 42; refine (group_one _ (by first | exact heap_alloc_new _ _ | exact blk_drew (heap_alloc_new _ _)) (by first | exact Kd.C_below HR.out (hb5.alloc hb5.size _) | exact Kd.C_below HR.out (below_drew (hb5.alloc hb5.size _))) hc hs (by omega)).mono ?_; rintro e w4 ⟨b, rfl, hge, hset, hb4⟩; have hln := fun ty => run_set_len hset ty; have hS4 : w4.cell? ⟨w.heap.size, 2, none⟩ = some (.slice A vals.length c) := pw_cell_below hb4 (by first | exact pw_cell_below ((Below.refl _ w3).alloc (Nat.le_refl _) _) hcell | exact pw_cell_below (below_drew ((Below.refl _ w3).alloc (Nat.le_refl _) _)) hcell)))
       all_goals (go_wp2_with fail)
       all_goals (go_ret)
       all_goals (refine ⟨congrArg (fun z => Ending.returned (Value.int .i64 z)) ?_, by first | exact below_then hb5 hb5.size (below_then (below_drew ((Below.refl _ w3).alloc (Nat.le_refl _) _)) (by simp) hb4) | exact below_then hb5 hb5.size (below_then ((Below.refl _ w3).alloc (Nat.le_refl _) _) (by simp) hb4)⟩; unfold wrongP badOp; rw [HN.out]; have hlen := HL.out; first | (exfalso; omega) | ((first | (have hq : 8 < vals.length := by omega) | (have hq : ¬ 8 < vals.length := by omega)); simp [*])))
end Go.Proofs.YtblfbdlhphhfnaaGreatDoor.PA
namespace Go.Proofs.YtblfbdlhphhfnaaGreatDoor.PA
open Go.RowKit Go.Maps Go.Sort Go.Shelf Go.Proofs.YtblfbdlhphhfnaaGreatDoorW.PrintWords Go.Proofs.YtblfbdlhphhfnaaGreatDoorW.PrintLast
set_option linter.unusedVariables false
set_option linter.unusedSimpArgs false
set_option maxHeartbeats 4000000 in
set_option maxRecDepth 100000 in
theorem wrong_op5 (key : ByteArray) (A : Option Addr) (c : Nat) (vals : List ByteArray) (n : Int) (w : World) (hr : Kd.C Kd.string w A vals.length vals) (hc : vals.length ≤ c) (hk : key.size ≤ 140737488351232) (hs : ∀ s ∈ vals, s.size ≤ 140737488351232) (hG : GL w) (hN : isName key.data.toList = true) (hlen : vals.length = 0) (hn1 : ¬ n < -2147483648) (hn2 : ¬ 2147483648 < n) :
    Calls Tryz.prog 57 #[.agg #[.string key, .int .i64 5, .slice A vals.length c, .int .i64 n]] w fun e w' => e = .returned (.int .i64 (wrongP key 5 vals n)) ∧ Below w.heap.size w w' := by
  have hname := fun W => valset_Name.calls key (isName key.data.toList) W (by unfold valset_Name.f; rw [if_pos hk])
  have HR := Lib.hid hr
  have hnl : vals.length ≤ 9223372036854775807 := hr.2.1
  clear hr
  rw [hN] at hname
  have HN := Lib.hid hN; clear hN
  have HL := Lib.hid hlen
  have hlt : (0 < vals.length) = False := by simp [hlen]
  clear hlen
  go_enter Tryz.func57, Tryz.ntmps57
  go_wp2_with (first
    | (go_at_call 26; refine (hname _).mono ?_; rintro e w2 ⟨rfl, hb⟩; obtain ⟨hcl, hfr⟩ := bcell hb; have hb1 := below_then ((Below.refl w.heap.size w).alloc (Nat.le_refl _) _) (by simp) hb; have hz : w.heap.size < w2.heap.size := by (have := hb.size; simp at this; omega))
    | (go_at_call 82; refine (wrong_any A c vals w _ (Kd.C_below HR.out hb1) hc hs (GL.of_below hG hb1)).mono ?_; rintro e w3 ⟨rfl, hb3⟩; obtain ⟨hcl3, hfr3⟩ := bcell hb3; have hz3 := hb3.size))
  all_goals first
    | (have hlen := HL.out; omega)
    | (go_ret; refine ⟨congrArg (fun z => Ending.returned (Value.int .i64 z)) ?_, by first | exact hb1 | exact below_then hb1 hb1.size hb3⟩; unfold wrongP badOp; rw [HN.out]; have hlen := HL.out; first | (exfalso; omega) | ((first | (have hq : 8 < vals.length := by omega) | (have hq : ¬ 8 < vals.length := by omega)); simp [*]))
    | (have hcell : w3.cell? ⟨w.heap.size, 2, none⟩ = some (.slice A vals.length c) := by (rw [hcl3 _ _ hz, hcl _ _ (by simp)]; simp)
       have hb5 := below_then hb1 hb1.size hb3
       have hz5 : w.heap.size < w3.heap.size := by omega
       have hcellA : ∀ o, (w3.alloc o).cell? ⟨w.heap.size, 2, none⟩ = some (.slice A vals.length c) := fun o => pw_cell_below ((Below.refl _ w3).alloc (Nat.le_refl _) _) hcell
       go_region_with (first | (go_at_call 42; refine (group_one _ (by first | exact heap_alloc_new _ _ | exact blk_drew (heap_alloc_new _ _)) (by first | exact Kd.C_below HR.out (hb5.alloc hb5.size _) | exact Kd.C_below HR.out (below_drew (hb5.alloc hb5.size _))) hc hs (by omega)).mono ?_; rintro e w4 ⟨b, rfl, hge, hset, hb4⟩; have hln := fun ty => run_set_len hset ty; have hS4 : w4.cell? ⟨w.heap.size, 2, none⟩ = some (.slice A vals.length c) := pw_cell_below hb4 (by first | exact pw_cell_below ((Below.refl _ w3).alloc (Nat.le_refl _) _) hcell | exact pw_cell_below (below_drew ((Below.refl _ w3).alloc (Nat.le_refl _) _)) hcell)))
       all_goals (go_wp2_with fail)
       all_goals (go_ret)
       all_goals (refine ⟨congrArg (fun z => Ending.returned (Value.int .i64 z)) ?_, by first | exact below_then hb5 hb5.size (below_then (below_drew ((Below.refl _ w3).alloc (Nat.le_refl _) _)) (by simp) hb4) | exact below_then hb5 hb5.size (below_then ((Below.refl _ w3).alloc (Nat.le_refl _) _) (by simp) hb4)⟩; unfold wrongP badOp; rw [HN.out]; have hlen := HL.out; first | (exfalso; omega) | ((first | (have hq : 8 < vals.length := by omega) | (have hq : ¬ 8 < vals.length := by omega)); simp [*])))
set_option maxHeartbeats 4000000 in
set_option maxRecDepth 100000 in
theorem wrong_op6 (key : ByteArray) (A : Option Addr) (c : Nat) (vals : List ByteArray) (n : Int) (w : World) (hr : Kd.C Kd.string w A vals.length vals) (hc : vals.length ≤ c) (hk : key.size ≤ 140737488351232) (hs : ∀ s ∈ vals, s.size ≤ 140737488351232) (hG : GL w) (hN : isName key.data.toList = true) (hlen : vals.length = 0) (hn1 : ¬ n < -2147483648) (hn2 : ¬ 2147483648 < n) :
    Calls Tryz.prog 57 #[.agg #[.string key, .int .i64 6, .slice A vals.length c, .int .i64 n]] w fun e w' => e = .returned (.int .i64 (wrongP key 6 vals n)) ∧ Below w.heap.size w w' := by
  have hname := fun W => valset_Name.calls key (isName key.data.toList) W (by unfold valset_Name.f; rw [if_pos hk])
  have HR := Lib.hid hr
  have hnl : vals.length ≤ 9223372036854775807 := hr.2.1
  clear hr
  rw [hN] at hname
  have HN := Lib.hid hN; clear hN
  have HL := Lib.hid hlen
  have hlt : (0 < vals.length) = False := by simp [hlen]
  clear hlen
  go_enter Tryz.func57, Tryz.ntmps57
  go_wp2_with (first
    | (go_at_call 26; refine (hname _).mono ?_; rintro e w2 ⟨rfl, hb⟩; obtain ⟨hcl, hfr⟩ := bcell hb; have hb1 := below_then ((Below.refl w.heap.size w).alloc (Nat.le_refl _) _) (by simp) hb; have hz : w.heap.size < w2.heap.size := by (have := hb.size; simp at this; omega))
    | (go_at_call 82; refine (wrong_any A c vals w _ (Kd.C_below HR.out hb1) hc hs (GL.of_below hG hb1)).mono ?_; rintro e w3 ⟨rfl, hb3⟩; obtain ⟨hcl3, hfr3⟩ := bcell hb3; have hz3 := hb3.size))
  all_goals first
    | (have hlen := HL.out; omega)
    | (go_ret; refine ⟨congrArg (fun z => Ending.returned (Value.int .i64 z)) ?_, by first | exact hb1 | exact below_then hb1 hb1.size hb3⟩; unfold wrongP badOp; rw [HN.out]; have hlen := HL.out; first | (exfalso; omega) | ((first | (have hq : 8 < vals.length := by omega) | (have hq : ¬ 8 < vals.length := by omega)); simp [*]))
    | (have hcell : w3.cell? ⟨w.heap.size, 2, none⟩ = some (.slice A vals.length c) := by (rw [hcl3 _ _ hz, hcl _ _ (by simp)]; simp)
       have hb5 := below_then hb1 hb1.size hb3
       have hz5 : w.heap.size < w3.heap.size := by omega
       have hcellA : ∀ o, (w3.alloc o).cell? ⟨w.heap.size, 2, none⟩ = some (.slice A vals.length c) := fun o => pw_cell_below ((Below.refl _ w3).alloc (Nat.le_refl _) _) hcell
       go_region_with (first | (go_at_call 42; refine (group_one _ (by first | exact heap_alloc_new _ _ | exact blk_drew (heap_alloc_new _ _)) (by first | exact Kd.C_below HR.out (hb5.alloc hb5.size _) | exact Kd.C_below HR.out (below_drew (hb5.alloc hb5.size _))) hc hs (by omega)).mono ?_; rintro e w4 ⟨b, rfl, hge, hset, hb4⟩; have hln := fun ty => run_set_len hset ty; have hS4 : w4.cell? ⟨w.heap.size, 2, none⟩ = some (.slice A vals.length c) := pw_cell_below hb4 (by first | exact pw_cell_below ((Below.refl _ w3).alloc (Nat.le_refl _) _) hcell | exact pw_cell_below (below_drew ((Below.refl _ w3).alloc (Nat.le_refl _) _)) hcell)))
       all_goals (go_wp2_with fail)
       all_goals (go_ret)
       all_goals (refine ⟨congrArg (fun z => Ending.returned (Value.int .i64 z)) ?_, by first | exact below_then hb5 hb5.size (below_then (below_drew ((Below.refl _ w3).alloc (Nat.le_refl _) _)) (by simp) hb4) | exact below_then hb5 hb5.size (below_then ((Below.refl _ w3).alloc (Nat.le_refl _) _) (by simp) hb4)⟩; unfold wrongP badOp; rw [HN.out]; have hlen := HL.out; first | (exfalso; omega) | ((first | (have hq : 8 < vals.length := by omega) | (have hq : ¬ 8 < vals.length := by omega)); simp [*])))
end Go.Proofs.YtblfbdlhphhfnaaGreatDoor.PA
