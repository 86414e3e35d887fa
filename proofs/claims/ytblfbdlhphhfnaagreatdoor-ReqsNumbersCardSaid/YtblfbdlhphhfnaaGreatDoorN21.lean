import Derived.Test.YtblfbdlhphhfnaaGreatDoorN14
import Derived.Test.YtblfbdlhphhfnaaGreatDoorN18
import Derived.Test.YtblfbdlhphhfnaaGreatDoorN19
import Derived.Test.YtblfbdlhphhfnaaGreatDoorN20
namespace Go.Proofs.YtblfbdlhphhfnaaGreatDoor.PA
open Go.RowKit Go.Maps Go.Sort Go.Shelf Go.Proofs.YtblfbdlhphhfnaaGreatDoorW.PrintWords Go.Proofs.YtblfbdlhphhfnaaGreatDoorW.PrintLast
set_option linter.unusedVariables false
set_option linter.unusedSimpArgs false
theorem four_cells {W : World} {g t : Nat} {c0 c1 c2 c3 : Value} (h : W.heap[g]? = some (.cells #[c0, c1, c2, c3] t (0, 0))) :
    W.cell? ⟨g, 0, none⟩ = some c0 ∧ W.cell? ⟨g, 1, none⟩ = some c1 ∧ W.cell? ⟨g, 2, none⟩ = some c2 ∧ W.cell? ⟨g, 3, none⟩ = some c3 :=
  ⟨(blk_cell h 0).trans rfl, (blk_cell h 1).trans rfl, (blk_cell h 2).trans rfl, (blk_cell h 3).trans rfl⟩
def ofP (key : ByteArray) (op : Int) (vals : List ByteArray) (n : Int) : PSet × Int :=
  if wrongP key op vals n = 0 then
    ((if op = 2 then ⟨true, true, false, groupS vals, 0, 0⟩ else if op = 3 then ⟨false, true, false, groupS vals, 0, 0⟩ else if op = 4 then ⟨true, false, false, groupS vals, 0, 0⟩
      else if op = 5 then (numbersP (n + 1) 2147483648 []).1 else if op = 6 then (numbersP (-2147483648) (n - 1) []).1 else ⟨false, false, false, groupS vals, 0, 0⟩), 0)
  else (⟨false, false, false, [], 0, 0⟩, wrongP key op vals n)
/-- What valset.Of's contract says of an end. -/
def OfEnd (w : World) (p : PSet × Int) (e : Ending) (w' : World) : Prop := ∃ v : Value, e = .returned (.tuple #[.agg #[.bool p.1.miss, .bool p.1.neg, .bool p.1.num, v, .int .i64 p.1.lo, .int .i64 p.1.hi], .int .i64 p.2]) ∧
  Kd.R Kd.string 9 w' w.heap.size (fun _ => True) v p.1.vals ∧ Below w.heap.size w w'
set_option maxHeartbeats 4000000 in
set_option maxRecDepth 100000 in
theorem of_err (key : ByteArray) (op : Int) (A : Option Addr) (c : Nat) (vals : List ByteArray) (n : Int) (w : World) (hr : Kd.C Kd.string w A vals.length vals) (hc : vals.length ≤ c) (hk : key.size ≤ 140737488351232) (hs : ∀ s ∈ vals, s.size ≤ 140737488351232) (hG : GL w) (he : wrongP key op vals n ≠ 0) :
    Calls Tryz.prog 40 #[.agg #[.string key, .int .i64 op, .slice A vals.length c, .int .i64 n]] w (OfEnd w (ofP key op vals n)) := by
  have hp : ofP key op vals n = (⟨false, false, false, [], 0, 0⟩, wrongP key op vals n) := by unfold ofP; rw [if_neg he]
  rw [hp]
  clear hp
  obtain ⟨E, hE⟩ : ∃ E, wrongP key op vals n = E := ⟨_, rfl⟩
  rw [hE] at he ⊢
  have HB : (E != 0) = true := by simpa using he
  have HE := Lib.hid hE; clear hE
  have HR := Lib.hid hr
  have hnl : vals.length ≤ 9223372036854775807 := hr.2.1
  clear hr
  have hu42 := Tryz.underlying42
  have hb0 : Below w.heap.size w ((w.alloc (.cells #[.string key, .int .i64 op, .slice A vals.length c, .int .i64 n] 25)).alloc (.cells setZero 42)) := ((Below.refl w.heap.size w).alloc (Nat.le_refl _) _).alloc (by simp) _
  have hbox : ((w.alloc (.cells #[.string key, .int .i64 op, .slice A vals.length c, .int .i64 n] 25)).alloc (.cells setZero 42)).heap[w.heap.size]? = _ := blk_alloc (blk_new _ _) _
  have hset : ((w.alloc (.cells #[.string key, .int .i64 op, .slice A vals.length c, .int .i64 n] 25)).alloc (.cells setZero 42)).heap[w.heap.size + 1]? = some (.cells setZero 42 (0, 0)) := by have := blk_new (w.alloc (.cells #[.string key, .int .i64 op, .slice A vals.length c, .int .i64 n] 25)) (.cells setZero 42); simpa using this
  go_enter Tryz.func40, Tryz.ntmps40
  go_wp2_with (first
    | (go_at_call 57; refine (wrong_walk key op A c vals n _ (Kd.C_below HR.out hb0) hc hk hs (GL.of_below hG hb0)).mono ?_; rintro e w1 ⟨rfl, hb1⟩; rw [HE.out]; have hbx := blk_below hbox hb1; have hst := blk_below hset hb1; obtain ⟨k0, k1, k2, k3⟩ := four_cells hbx; obtain ⟨fc, ff⟩ := six_facts (show w1.heap[w.heap.size + 1]? = some (.cells #[.bool false, .bool false, .bool false, .slice none 0 0, .int .i64 0, .int .i64 0] 42 (0, 0)) from hst); have hbw := below_then hb0 hb0.size hb1))
  refine bodyPost_ret (results_ct rfl _ _ (w.heap.size + 1) 42 #[.bool false, .bool false, .bool false, .slice none 0 0, .int .i64 0, .int .i64 0] (0, 0) _ rfl (six_put hst _ _ _ _ _ _) Tryz.underlying42 rfl (by kernel_rfl)) rfl ?_
  exact ⟨_, rfl, Kd.R_nil _ _ _ _ _, six_below hbw (by omega) _ _ _ _ _ _⟩
end Go.Proofs.YtblfbdlhphhfnaaGreatDoor.PA
namespace Go.Proofs.YtblfbdlhphhfnaaGreatDoor.PA
open Go.RowKit Go.Maps Go.Sort Go.Shelf Go.Proofs.YtblfbdlhphhfnaaGreatDoorW.PrintWords Go.Proofs.YtblfbdlhphhfnaaGreatDoorW.PrintLast
set_option linter.unusedVariables false
set_option linter.unusedSimpArgs false
set_option maxHeartbeats 4000000 in
set_option maxRecDepth 100000 in
theorem of_op1 (key : ByteArray) (A : Option Addr) (c : Nat) (vals : List ByteArray) (n : Int) (w : World) (hr : Kd.C Kd.string w A vals.length vals) (hc : vals.length ≤ c) (hk : key.size ≤ 140737488351232) (hs : ∀ s ∈ vals, s.size ≤ 140737488351232) (hG : GL w) (he : wrongP key 1 vals n = 0) (hl8 : vals.length ≤ 8) :
    Calls Tryz.prog 40 #[.agg #[.string key, .int .i64 1, .slice A vals.length c, .int .i64 n]] w (OfEnd w (ofP key 1 vals n)) := by
  have hp : ofP key 1 vals n = (⟨false, false, false, groupS vals, 0, 0⟩, 0) := by unfold ofP; rw [if_pos he]; rfl
  rw [hp]
  clear hp
  have HR := Lib.hid hr
  have hnl : vals.length ≤ 9223372036854775807 := hr.2.1
  clear hr
  have hu42 := Tryz.underlying42
  have hb0 : Below w.heap.size w ((w.alloc (.cells #[.string key, .int .i64 1, .slice A vals.length c, .int .i64 n] 25)).alloc (.cells setZero 42)) := ((Below.refl w.heap.size w).alloc (Nat.le_refl _) _).alloc (by simp) _
  have hbox : ((w.alloc (.cells #[.string key, .int .i64 1, .slice A vals.length c, .int .i64 n] 25)).alloc (.cells setZero 42)).heap[w.heap.size]? = _ := blk_alloc (blk_new _ _) _
  have hset : ((w.alloc (.cells #[.string key, .int .i64 1, .slice A vals.length c, .int .i64 n] 25)).alloc (.cells setZero 42)).heap[w.heap.size + 1]? = some (.cells setZero 42 (0, 0)) := by have := blk_new (w.alloc (.cells #[.string key, .int .i64 1, .slice A vals.length c, .int .i64 n] 25)) (.cells setZero 42); simpa using this
  go_enter Tryz.func40, Tryz.ntmps40
  go_wp2_with (first
    | (go_at_call 57; refine (wrong_walk key 1 A c vals n _ (Kd.C_below HR.out hb0) hc hk hs (GL.of_below hG hb0)).mono ?_; rintro e w1 ⟨rfl, hb1⟩; rw [he]; have hbx := blk_below hbox hb1; have hst := blk_below hset hb1; obtain ⟨k0, k1, k2, k3⟩ := four_cells hbx; obtain ⟨fc, ff⟩ := six_facts (show w1.heap[w.heap.size + 1]? = some (.cells #[.bool false, .bool false, .bool false, .slice none 0 0, .int .i64 0, .int .i64 0] 42 (0, 0)) from hst); have hbw := below_then hb0 hb0.size hb1)
    | (go_at_call 42; refine (group_one _ (heap_alloc_new _ _) (Kd.C_below HR.out (hbw.alloc hbw.size _)) hc hs (by omega)).mono ?_; rintro e w2 ⟨b, rfl, hge, hset2, hb2⟩)
    | (go_at_call 44; refine (valset_rising.calls b (groupS vals) _ hset2 (by have := length_groupS vals; omega)).mono ?_; rintro e w3 ⟨v, rfl, hR, hb3⟩; obtain ⟨Av, cv, rfl⟩ := Kd.R_slice hR; have hbx3 := blk_below (blk_below (blk_alloc hbx (.cells #[.slice A vals.length c] 23)) hb2) hb3; have hst3 := blk_below (blk_below (blk_alloc hst (.cells #[.slice A vals.length c] 23)) hb2) hb3; obtain ⟨j0, j1, j2, j3⟩ := four_cells hbx3; obtain ⟨gc, gf⟩ := six_facts (show w3.heap[w.heap.size + 1]? = some (.cells #[.bool false, .bool false, .bool false, .slice none 0 0, .int .i64 0, .int .i64 0] 42 (0, 0)) from hst3); have hz1 : w.heap.size < w3.heap.size := blk_lt hbx3; have hz2 : w.heap.size + 1 < w3.heap.size := blk_lt hst3; have hbw3 := below_then (below_then (hbw.alloc hbw.size (.cells #[.slice A vals.length c] 23)) (hbw.alloc hbw.size (.cells #[.slice A vals.length c] 23)).size hb2) (below_then (hbw.alloc hbw.size (.cells #[.slice A vals.length c] 23)) (hbw.alloc hbw.size (.cells #[.slice A vals.length c] 23)).size hb2).size hb3; have hR3 := Kd.R_lower hR (below_then (hbw.alloc hbw.size (.cells #[.slice A vals.length c] 23)) (hbw.alloc hbw.size (.cells #[.slice A vals.length c] 23)).size hb2).size))
  have hbz := six_below hbw3 (show w.heap.size ≤ w.heap.size + 1 by omega) (.bool false) (.bool false) (.bool false) (.slice Av (groupS vals).length cv) (.int .i64 0) (.int .i64 0)
  refine bodyPost_ret (results_ct rfl _ _ (w.heap.size + 1) 42 #[.bool false, .bool false, .bool false, .slice Av (groupS vals).length cv, .int .i64 0, .int .i64 0] (0, 0) _ rfl (blk_alloc (six_put hst3 _ _ _ _ _ _) _) Tryz.underlying42 rfl (by kernel_rfl)) rfl ?_
  exact ⟨_, rfl, Kd.R_alloc (six_R hst3 (by decide) hR3 _ _ _ _ _ _) _, hbz.alloc hbz.size _⟩
set_option maxHeartbeats 4000000 in
set_option maxRecDepth 100000 in
theorem of_op2 (key : ByteArray) (A : Option Addr) (c : Nat) (vals : List ByteArray) (n : Int) (w : World) (hr : Kd.C Kd.string w A vals.length vals) (hc : vals.length ≤ c) (hk : key.size ≤ 140737488351232) (hs : ∀ s ∈ vals, s.size ≤ 140737488351232) (hG : GL w) (he : wrongP key 2 vals n = 0) (hl8 : vals.length ≤ 8) :
    Calls Tryz.prog 40 #[.agg #[.string key, .int .i64 2, .slice A vals.length c, .int .i64 n]] w (OfEnd w (ofP key 2 vals n)) := by
  have hp : ofP key 2 vals n = (⟨true, true, false, groupS vals, 0, 0⟩, 0) := by unfold ofP; rw [if_pos he]; rfl
  rw [hp]
  clear hp
  have HR := Lib.hid hr
  have hnl : vals.length ≤ 9223372036854775807 := hr.2.1
  clear hr
  have hu42 := Tryz.underlying42
  have hb0 : Below w.heap.size w ((w.alloc (.cells #[.string key, .int .i64 2, .slice A vals.length c, .int .i64 n] 25)).alloc (.cells setZero 42)) := ((Below.refl w.heap.size w).alloc (Nat.le_refl _) _).alloc (by simp) _
  have hbox : ((w.alloc (.cells #[.string key, .int .i64 2, .slice A vals.length c, .int .i64 n] 25)).alloc (.cells setZero 42)).heap[w.heap.size]? = _ := blk_alloc (blk_new _ _) _
  have hset : ((w.alloc (.cells #[.string key, .int .i64 2, .slice A vals.length c, .int .i64 n] 25)).alloc (.cells setZero 42)).heap[w.heap.size + 1]? = some (.cells setZero 42 (0, 0)) := by have := blk_new (w.alloc (.cells #[.string key, .int .i64 2, .slice A vals.length c, .int .i64 n] 25)) (.cells setZero 42); simpa using this
  go_enter Tryz.func40, Tryz.ntmps40
  go_wp2_with (first
    | (go_at_call 57; refine (wrong_walk key 2 A c vals n _ (Kd.C_below HR.out hb0) hc hk hs (GL.of_below hG hb0)).mono ?_; rintro e w1 ⟨rfl, hb1⟩; rw [he]; have hbx := blk_below hbox hb1; have hst := blk_below hset hb1; obtain ⟨k0, k1, k2, k3⟩ := four_cells hbx; obtain ⟨fc, ff⟩ := six_facts (show w1.heap[w.heap.size + 1]? = some (.cells #[.bool false, .bool false, .bool false, .slice none 0 0, .int .i64 0, .int .i64 0] 42 (0, 0)) from hst); have hbw := below_then hb0 hb0.size hb1)
    | (go_at_call 42; refine (group_one _ (heap_alloc_new _ _) (Kd.C_below HR.out (hbw.alloc hbw.size _)) hc hs (by omega)).mono ?_; rintro e w2 ⟨b, rfl, hge, hset2, hb2⟩)
    | (go_at_call 44; refine (valset_rising.calls b (groupS vals) _ hset2 (by have := length_groupS vals; omega)).mono ?_; rintro e w3 ⟨v, rfl, hR, hb3⟩; obtain ⟨Av, cv, rfl⟩ := Kd.R_slice hR; have hbx3 := blk_below (blk_below (blk_alloc hbx (.cells #[.slice A vals.length c] 23)) hb2) hb3; have hst3 := blk_below (blk_below (blk_alloc hst (.cells #[.slice A vals.length c] 23)) hb2) hb3; obtain ⟨j0, j1, j2, j3⟩ := four_cells hbx3; obtain ⟨gc, gf⟩ := six_facts (show w3.heap[w.heap.size + 1]? = some (.cells #[.bool false, .bool false, .bool false, .slice none 0 0, .int .i64 0, .int .i64 0] 42 (0, 0)) from hst3); have hz1 : w.heap.size < w3.heap.size := blk_lt hbx3; have hz2 : w.heap.size + 1 < w3.heap.size := blk_lt hst3; have hbw3 := below_then (below_then (hbw.alloc hbw.size (.cells #[.slice A vals.length c] 23)) (hbw.alloc hbw.size (.cells #[.slice A vals.length c] 23)).size hb2) (below_then (hbw.alloc hbw.size (.cells #[.slice A vals.length c] 23)) (hbw.alloc hbw.size (.cells #[.slice A vals.length c] 23)).size hb2).size hb3; have hR3 := Kd.R_lower hR (below_then (hbw.alloc hbw.size (.cells #[.slice A vals.length c] 23)) (hbw.alloc hbw.size (.cells #[.slice A vals.length c] 23)).size hb2).size))
  have hbz := six_below hbw3 (show w.heap.size ≤ w.heap.size + 1 by omega) (.bool true) (.bool true) (.bool false) (.slice Av (groupS vals).length cv) (.int .i64 0) (.int .i64 0)
  refine bodyPost_ret (results_ct rfl _ _ (w.heap.size + 1) 42 #[.bool true, .bool true, .bool false, .slice Av (groupS vals).length cv, .int .i64 0, .int .i64 0] (0, 0) _ rfl (blk_alloc (six_put hst3 _ _ _ _ _ _) _) Tryz.underlying42 rfl (by kernel_rfl)) rfl ?_
  exact ⟨_, rfl, Kd.R_alloc (six_R hst3 (by decide) hR3 _ _ _ _ _ _) _, hbz.alloc hbz.size _⟩
set_option maxHeartbeats 4000000 in
set_option maxRecDepth 100000 in
theorem of_op3 (key : ByteArray) (A : Option Addr) (c : Nat) (vals : List ByteArray) (n : Int) (w : World) (hr : Kd.C Kd.string w A vals.length vals) (hc : vals.length ≤ c) (hk : key.size ≤ 140737488351232) (hs : ∀ s ∈ vals, s.size ≤ 140737488351232) (hG : GL w) (he : wrongP key 3 vals n = 0) (hl8 : vals.length ≤ 8) :
    Calls Tryz.prog 40 #[.agg #[.string key, .int .i64 3, .slice A vals.length c, .int .i64 n]] w (OfEnd w (ofP key 3 vals n)) := by
  have hp : ofP key 3 vals n = (⟨false, true, false, groupS vals, 0, 0⟩, 0) := by unfold ofP; rw [if_pos he]; rfl
  rw [hp]
  clear hp
  have HR := Lib.hid hr
  have hnl : vals.length ≤ 9223372036854775807 := hr.2.1
  clear hr
  have hu42 := Tryz.underlying42
  have hb0 : Below w.heap.size w ((w.alloc (.cells #[.string key, .int .i64 3, .slice A vals.length c, .int .i64 n] 25)).alloc (.cells setZero 42)) := ((Below.refl w.heap.size w).alloc (Nat.le_refl _) _).alloc (by simp) _
  have hbox : ((w.alloc (.cells #[.string key, .int .i64 3, .slice A vals.length c, .int .i64 n] 25)).alloc (.cells setZero 42)).heap[w.heap.size]? = _ := blk_alloc (blk_new _ _) _
  have hset : ((w.alloc (.cells #[.string key, .int .i64 3, .slice A vals.length c, .int .i64 n] 25)).alloc (.cells setZero 42)).heap[w.heap.size + 1]? = some (.cells setZero 42 (0, 0)) := by have := blk_new (w.alloc (.cells #[.string key, .int .i64 3, .slice A vals.length c, .int .i64 n] 25)) (.cells setZero 42); simpa using this
  go_enter Tryz.func40, Tryz.ntmps40
  go_wp2_with (first
    | (go_at_call 57; refine (wrong_walk key 3 A c vals n _ (Kd.C_below HR.out hb0) hc hk hs (GL.of_below hG hb0)).mono ?_; rintro e w1 ⟨rfl, hb1⟩; rw [he]; have hbx := blk_below hbox hb1; have hst := blk_below hset hb1; obtain ⟨k0, k1, k2, k3⟩ := four_cells hbx; obtain ⟨fc, ff⟩ := six_facts (show w1.heap[w.heap.size + 1]? = some (.cells #[.bool false, .bool false, .bool false, .slice none 0 0, .int .i64 0, .int .i64 0] 42 (0, 0)) from hst); have hbw := below_then hb0 hb0.size hb1)
    | (go_at_call 42; refine (group_one _ (heap_alloc_new _ _) (Kd.C_below HR.out (hbw.alloc hbw.size _)) hc hs (by omega)).mono ?_; rintro e w2 ⟨b, rfl, hge, hset2, hb2⟩)
    | (go_at_call 44; refine (valset_rising.calls b (groupS vals) _ hset2 (by have := length_groupS vals; omega)).mono ?_; rintro e w3 ⟨v, rfl, hR, hb3⟩; obtain ⟨Av, cv, rfl⟩ := Kd.R_slice hR; have hbx3 := blk_below (blk_below (blk_alloc hbx (.cells #[.slice A vals.length c] 23)) hb2) hb3; have hst3 := blk_below (blk_below (blk_alloc hst (.cells #[.slice A vals.length c] 23)) hb2) hb3; obtain ⟨j0, j1, j2, j3⟩ := four_cells hbx3; obtain ⟨gc, gf⟩ := six_facts (show w3.heap[w.heap.size + 1]? = some (.cells #[.bool false, .bool false, .bool false, .slice none 0 0, .int .i64 0, .int .i64 0] 42 (0, 0)) from hst3); have hz1 : w.heap.size < w3.heap.size := blk_lt hbx3; have hz2 : w.heap.size + 1 < w3.heap.size := blk_lt hst3; have hbw3 := below_then (below_then (hbw.alloc hbw.size (.cells #[.slice A vals.length c] 23)) (hbw.alloc hbw.size (.cells #[.slice A vals.length c] 23)).size hb2) (below_then (hbw.alloc hbw.size (.cells #[.slice A vals.length c] 23)) (hbw.alloc hbw.size (.cells #[.slice A vals.length c] 23)).size hb2).size hb3; have hR3 := Kd.R_lower hR (below_then (hbw.alloc hbw.size (.cells #[.slice A vals.length c] 23)) (hbw.alloc hbw.size (.cells #[.slice A vals.length c] 23)).size hb2).size))
  have hbz := six_below hbw3 (show w.heap.size ≤ w.heap.size + 1 by omega) (.bool false) (.bool true) (.bool false) (.slice Av (groupS vals).length cv) (.int .i64 0) (.int .i64 0)
  refine bodyPost_ret (results_ct rfl _ _ (w.heap.size + 1) 42 #[.bool false, .bool true, .bool false, .slice Av (groupS vals).length cv, .int .i64 0, .int .i64 0] (0, 0) _ rfl (blk_alloc (six_put hst3 _ _ _ _ _ _) _) Tryz.underlying42 rfl (by kernel_rfl)) rfl ?_
  exact ⟨_, rfl, Kd.R_alloc (six_R hst3 (by decide) hR3 _ _ _ _ _ _) _, hbz.alloc hbz.size _⟩
set_option maxHeartbeats 4000000 in
set_option maxRecDepth 100000 in
theorem of_op4 (key : ByteArray) (A : Option Addr) (c : Nat) (vals : List ByteArray) (n : Int) (w : World) (hr : Kd.C Kd.string w A vals.length vals) (hc : vals.length ≤ c) (hk : key.size ≤ 140737488351232) (hs : ∀ s ∈ vals, s.size ≤ 140737488351232) (hG : GL w) (he : wrongP key 4 vals n = 0) (hl8 : vals.length ≤ 8) :
    Calls Tryz.prog 40 #[.agg #[.string key, .int .i64 4, .slice A vals.length c, .int .i64 n]] w (OfEnd w (ofP key 4 vals n)) := by
  have hp : ofP key 4 vals n = (⟨true, false, false, groupS vals, 0, 0⟩, 0) := by unfold ofP; rw [if_pos he]; rfl
  rw [hp]
  clear hp
  have HR := Lib.hid hr
  have hnl : vals.length ≤ 9223372036854775807 := hr.2.1
  clear hr
  have hu42 := Tryz.underlying42
  have hb0 : Below w.heap.size w ((w.alloc (.cells #[.string key, .int .i64 4, .slice A vals.length c, .int .i64 n] 25)).alloc (.cells setZero 42)) := ((Below.refl w.heap.size w).alloc (Nat.le_refl _) _).alloc (by simp) _
  have hbox : ((w.alloc (.cells #[.string key, .int .i64 4, .slice A vals.length c, .int .i64 n] 25)).alloc (.cells setZero 42)).heap[w.heap.size]? = _ := blk_alloc (blk_new _ _) _
  have hset : ((w.alloc (.cells #[.string key, .int .i64 4, .slice A vals.length c, .int .i64 n] 25)).alloc (.cells setZero 42)).heap[w.heap.size + 1]? = some (.cells setZero 42 (0, 0)) := by have := blk_new (w.alloc (.cells #[.string key, .int .i64 4, .slice A vals.length c, .int .i64 n] 25)) (.cells setZero 42); simpa using this
  go_enter Tryz.func40, Tryz.ntmps40
  go_wp2_with (first
    | (go_at_call 57; refine (wrong_walk key 4 A c vals n _ (Kd.C_below HR.out hb0) hc hk hs (GL.of_below hG hb0)).mono ?_; rintro e w1 ⟨rfl, hb1⟩; rw [he]; have hbx := blk_below hbox hb1; have hst := blk_below hset hb1; obtain ⟨k0, k1, k2, k3⟩ := four_cells hbx; obtain ⟨fc, ff⟩ := six_facts (show w1.heap[w.heap.size + 1]? = some (.cells #[.bool false, .bool false, .bool false, .slice none 0 0, .int .i64 0, .int .i64 0] 42 (0, 0)) from hst); have hbw := below_then hb0 hb0.size hb1)
    | (go_at_call 42; refine (group_one _ (heap_alloc_new _ _) (Kd.C_below HR.out (hbw.alloc hbw.size _)) hc hs (by omega)).mono ?_; rintro e w2 ⟨b, rfl, hge, hset2, hb2⟩)
    | (go_at_call 44; refine (valset_rising.calls b (groupS vals) _ hset2 (by have := length_groupS vals; omega)).mono ?_; rintro e w3 ⟨v, rfl, hR, hb3⟩; obtain ⟨Av, cv, rfl⟩ := Kd.R_slice hR; have hbx3 := blk_below (blk_below (blk_alloc hbx (.cells #[.slice A vals.length c] 23)) hb2) hb3; have hst3 := blk_below (blk_below (blk_alloc hst (.cells #[.slice A vals.length c] 23)) hb2) hb3; obtain ⟨j0, j1, j2, j3⟩ := four_cells hbx3; obtain ⟨gc, gf⟩ := six_facts (show w3.heap[w.heap.size + 1]? = some (.cells #[.bool false, .bool false, .bool false, .slice none 0 0, .int .i64 0, .int .i64 0] 42 (0, 0)) from hst3); have hz1 : w.heap.size < w3.heap.size := blk_lt hbx3; have hz2 : w.heap.size + 1 < w3.heap.size := blk_lt hst3; have hbw3 := below_then (below_then (hbw.alloc hbw.size (.cells #[.slice A vals.length c] 23)) (hbw.alloc hbw.size (.cells #[.slice A vals.length c] 23)).size hb2) (below_then (hbw.alloc hbw.size (.cells #[.slice A vals.length c] 23)) (hbw.alloc hbw.size (.cells #[.slice A vals.length c] 23)).size hb2).size hb3; have hR3 := Kd.R_lower hR (below_then (hbw.alloc hbw.size (.cells #[.slice A vals.length c] 23)) (hbw.alloc hbw.size (.cells #[.slice A vals.length c] 23)).size hb2).size))
  have hbz := six_below hbw3 (show w.heap.size ≤ w.heap.size + 1 by omega) (.bool true) (.bool false) (.bool false) (.slice Av (groupS vals).length cv) (.int .i64 0) (.int .i64 0)
  refine bodyPost_ret (results_ct rfl _ _ (w.heap.size + 1) 42 #[.bool true, .bool false, .bool false, .slice Av (groupS vals).length cv, .int .i64 0, .int .i64 0] (0, 0) _ rfl (blk_alloc (six_put hst3 _ _ _ _ _ _) _) Tryz.underlying42 rfl (by kernel_rfl)) rfl ?_
  exact ⟨_, rfl, Kd.R_alloc (six_R hst3 (by decide) hR3 _ _ _ _ _ _) _, hbz.alloc hbz.size _⟩
end Go.Proofs.YtblfbdlhphhfnaaGreatDoor.PA
