import Derived.Test.YtblfbdlhphhfnaaGreatDoorN14
import Derived.Test.YtblfbdlhphhfnaaGreatDoorN16
import Derived.Test.YtblfbdlhphhfnaaGreatDoorN19
import Derived.Test.YtblfbdlhphhfnaaGreatDoorN20
import Derived.Test.YtblfbdlhphhfnaaGreatDoorN21
import Derived.IntWalk
import Derived.Deep.RegionWith
namespace Go.Proofs.YtblfbdlhphhfnaaGreatDoor.PA
open Go.RowKit Go.Maps Go.Sort Go.Shelf Go.Proofs.YtblfbdlhphhfnaaGreatDoorW.PrintWords Go.Proofs.YtblfbdlhphhfnaaGreatDoorW.PrintLast
set_option linter.unusedVariables false
set_option linter.unusedSimpArgs false
theorem six_far {W : World} {g g' t : Nat} {cs : Array Value} (h : W.heap[g']? = some (.cells cs t (0, 0))) (hne : g' ≠ g) (v0 v1 v2 v3 v4 v5 : Value) : (six W g v0 v1 v2 v3 v4 v5).heap[g']? = some (.cells cs t (0, 0)) :=
  blk_far (blk_far (blk_far (blk_far (blk_far (blk_far h (p := ⟨g, 0, none⟩) hne v0) (p := ⟨g, 1, none⟩) hne v1) (p := ⟨g, 2, none⟩) hne v2) (p := ⟨g, 3, none⟩) hne v3) (p := ⟨g, 4, none⟩) hne v4) (p := ⟨g, 5, none⟩) hne v5
set_option maxHeartbeats 4000000 in
set_option maxRecDepth 100000 in
theorem of_op5 (key : ByteArray) (A : Option Addr) (c : Nat) (vals : List ByteArray) (n : Int) (w : World) (hr : Kd.C Kd.string w A vals.length vals) (hc : vals.length ≤ c) (hk : key.size ≤ 140737488351232) (hs : ∀ s ∈ vals, s.size ≤ 140737488351232) (hG : GL w) (he : wrongP key 5 vals n = 0) (hl8 : vals.length ≤ 8) (hn1 : -2147483648 ≤ n) (hn2 : n ≤ 2147483648) :
    Calls Tryz.prog 40 #[.agg #[.string key, .int .i64 5, .slice A vals.length c, .int .i64 n]] w (OfEnd w (ofP key 5 vals n)) := by
  have hp : ofP key 5 vals n = ((numbersP (n + 1) 2147483648 []).1, 0) := by unfold ofP; rw [if_pos he]; rfl
  rw [hp]
  clear hp
  have hwr : IntKind.i64.wrap (n + 1) = n + 1 := IntWalk.i64_in _ (by omega)
  have HR := Lib.hid hr
  have hnl : vals.length ≤ 9223372036854775807 := hr.2.1
  clear hr
  have hu42 := Tryz.underlying42
  have hb0 : Below w.heap.size w ((w.alloc (.cells #[.string key, .int .i64 5, .slice A vals.length c, .int .i64 n] 25)).alloc (.cells setZero 42)) := ((Below.refl w.heap.size w).alloc (Nat.le_refl _) _).alloc (by simp) _
  have hbox : ((w.alloc (.cells #[.string key, .int .i64 5, .slice A vals.length c, .int .i64 n] 25)).alloc (.cells setZero 42)).heap[w.heap.size]? = _ := blk_alloc (blk_new _ _) _
  have hset : ((w.alloc (.cells #[.string key, .int .i64 5, .slice A vals.length c, .int .i64 n] 25)).alloc (.cells setZero 42)).heap[w.heap.size + 1]? = some (.cells setZero 42 (0, 0)) := by have := blk_new (w.alloc (.cells #[.string key, .int .i64 5, .slice A vals.length c, .int .i64 n] 25)) (.cells setZero 42); simpa using this
  go_enter Tryz.func40, Tryz.ntmps40
  go_wp2_with (first
    | (go_at_call 57; refine (wrong_walk key 5 A c vals n _ (Kd.C_below HR.out hb0) hc hk hs (GL.of_below hG hb0)).mono ?_; rintro e w1 ⟨rfl, hb1⟩; rw [he]; have hbx := blk_below hbox hb1; have hst := blk_below hset hb1; obtain ⟨k0, k1, k2, k3⟩ := four_cells hbx; obtain ⟨fc, ff⟩ := six_facts (show w1.heap[w.heap.size + 1]? = some (.cells #[.bool false, .bool false, .bool false, .slice none 0 0, .int .i64 0, .int .i64 0] 42 (0, 0)) from hst); have hbw := below_then hb0 hb0.size hb1)
    | (go_at_call 42; refine (group_one _ (heap_alloc_new _ _) (Kd.C_below HR.out (hbw.alloc hbw.size _)) hc hs (by omega)).mono ?_; rintro e w2 ⟨b, rfl, hge, hset2, hb2⟩)
    | (go_at_call 44; refine (valset_rising.calls b (groupS vals) _ hset2 (by have := length_groupS vals; omega)).mono ?_; rintro e w3 ⟨v, rfl, hR, hb3⟩; obtain ⟨Av, cv, rfl⟩ := Kd.R_slice hR; have hbx3 := blk_below (blk_below (blk_alloc hbx (.cells #[.slice A vals.length c] 23)) hb2) hb3; have hst3 := blk_below (blk_below (blk_alloc hst (.cells #[.slice A vals.length c] 23)) hb2) hb3; obtain ⟨j0, j1, j2, j3⟩ := four_cells hbx3; obtain ⟨gc, gf⟩ := six_facts (show w3.heap[w.heap.size + 1]? = some (.cells #[.bool false, .bool false, .bool false, .slice none 0 0, .int .i64 0, .int .i64 0] 42 (0, 0)) from hst3); have hz1 : w.heap.size < w3.heap.size := blk_lt hbx3; have hz2 : w.heap.size + 1 < w3.heap.size := blk_lt hst3; have hbw3 := below_then (below_then (hbw.alloc hbw.size (.cells #[.slice A vals.length c] 23)) (hbw.alloc hbw.size (.cells #[.slice A vals.length c] 23)).size hb2) (below_then (hbw.alloc hbw.size (.cells #[.slice A vals.length c] 23)) (hbw.alloc hbw.size (.cells #[.slice A vals.length c] 23)).size hb2).size hb3; have hR3 := Kd.R_lower hR (below_then (hbw.alloc hbw.size (.cells #[.slice A vals.length c] 23)) (hbw.alloc hbw.size (.cells #[.slice A vals.length c] 23)).size hb2).size))
  have hzZ := blk_new w3 (.cells #[.bool false, .bool false, .bool false, .slice Av (groupS vals).length cv, .int .i64 0, .int .i64 0] 42)
  have hstZ := blk_alloc hst3 (.cells #[.bool false, .bool false, .bool false, .slice Av (groupS vals).length cv, .int .i64 0, .int .i64 0] 42)
  have hbZ := hbw3.alloc hbw3.size (.cells #[.bool false, .bool false, .bool false, .slice Av (groupS vals).length cv, .int .i64 0, .int .i64 0] 42)
  have hcA : (w3.alloc (.cells #[.bool false, .bool false, .bool false, .slice Av (groupS vals).length cv, .int .i64 0, .int .i64 0] 42)).cell? ⟨w.heap.size, 3, none⟩ = some (.int .i64 n) := pw_cell_below ((Below.refl _ w3).alloc (Nat.le_refl _) _) j3
  have hcD : (w3.alloc (.cells #[.bool false, .bool false, .bool false, .slice Av (groupS vals).length cv, .int .i64 0, .int .i64 0] 42)).drew.cell? ⟨w.heap.size, 3, none⟩ = some (.int .i64 n) := pw_cell_below (below_drew ((Below.refl _ w3).alloc (Nat.le_refl _) _)) j3
  have hne : w.heap.size + 1 ≠ w3.heap.size := by omega
  go_region_with (first | (go_at_call 42; refine (group_none _).mono ?_; rintro e w4 ⟨b2, rfl, hge2, hsE, hb4⟩; have hc4 : w4.cell? ⟨w.heap.size, 3, none⟩ = some (.int .i64 n) := pw_cell_below hb4 (by first | exact hcA | exact hcD)) | (go_at_call 45; refine (numbers_walk (n + 1) 2147483648 b2 [] _ _ hb4 hge2 hsE (by omega) (by omega) (by omega) (by omega) (by simp) (by simp) (by first | exact GL.of_below hG hbZ | exact GL.of_below hG (below_drew hbZ))).mono ?_; rintro e w5 ⟨v5, rfl, hR5, hb5⟩; obtain ⟨A5, c5, rfl⟩ := Kd.R_slice hR5; have hz5 : w5.heap[w3.heap.size]? = some (.cells #[.bool false, .bool false, .bool false, .slice Av (groupS vals).length cv, .int .i64 0, .int .i64 0] 42 (0, 0)) := (by first | exact blk_below hzZ hb5 | exact blk_below (blk_drew hzZ) hb5); have hst5 : w5.heap[w.heap.size + 1]? = some (.cells #[.bool false, .bool false, .bool false, .slice none 0 0, .int .i64 0, .int .i64 0] 42 (0, 0)) := (by first | exact blk_below hstZ hb5 | exact blk_below (blk_drew hstZ) hb5); obtain ⟨mc, mf⟩ := six_facts (show w5.heap[w3.heap.size]? = some (.cells #[.bool false, .bool false, .bool false, .slice Av (groupS vals).length cv, .int .i64 0, .int .i64 0] 42 (0, 0)) from hz5); obtain ⟨nc, nf⟩ := six_facts (show w5.heap[w.heap.size + 1]? = some (.cells #[.bool false, .bool false, .bool false, .slice none 0 0, .int .i64 0, .int .i64 0] 42 (0, 0)) from hst5); have hbw5 : Below w.heap.size w w5 := (by first | exact below_then hbZ hbZ.size hb5 | exact below_then (below_drew hbZ) hbZ.size hb5); have hR6 := Kd.R_lower hR5 (show w.heap.size ≤ _ from hbZ.size)))
  all_goals (go_wp2_with fail)
  all_goals (
    have hb6 := six_below hbw5 (show w.heap.size ≤ w3.heap.size by omega) (.bool (numbersP (n + 1) 2147483648 []).1.miss) (.bool (numbersP (n + 1) 2147483648 []).1.neg) (.bool (numbersP (n + 1) 2147483648 []).1.num) (.slice A5 (numbersP (n + 1) 2147483648 []).1.vals.length c5) (.int .i64 (numbersP (n + 1) 2147483648 []).1.lo) (.int .i64 (numbersP (n + 1) 2147483648 []).1.hi)
    have hz6 := six_far hst5 hne (.bool (numbersP (n + 1) 2147483648 []).1.miss) (.bool (numbersP (n + 1) 2147483648 []).1.neg) (.bool (numbersP (n + 1) 2147483648 []).1.num) (.slice A5 (numbersP (n + 1) 2147483648 []).1.vals.length c5) (.int .i64 (numbersP (n + 1) 2147483648 []).1.lo) (.int .i64 (numbersP (n + 1) 2147483648 []).1.hi)
    refine bodyPost_ret (results_ct rfl _ _ (w.heap.size + 1) 42 #[.bool (numbersP (n + 1) 2147483648 []).1.miss, .bool (numbersP (n + 1) 2147483648 []).1.neg, .bool (numbersP (n + 1) 2147483648 []).1.num, .slice A5 (numbersP (n + 1) 2147483648 []).1.vals.length c5, .int .i64 (numbersP (n + 1) 2147483648 []).1.lo, .int .i64 (numbersP (n + 1) 2147483648 []).1.hi] (0, 0) _ rfl (six_put hz6 _ _ _ _ _ _) Tryz.underlying42 rfl (by kernel_rfl)) rfl ?_
    exact ⟨_, rfl, six_R hz6 (by decide) (six_R hz5 (by decide) hR6 _ _ _ _ _ _) _ _ _ _ _ _, six_below hb6 (by omega) _ _ _ _ _ _⟩)
end Go.Proofs.YtblfbdlhphhfnaaGreatDoor.PA
namespace Go.Proofs.YtblfbdlhphhfnaaGreatDoor.PA
open Go.RowKit Go.Maps Go.Sort Go.Shelf Go.Proofs.YtblfbdlhphhfnaaGreatDoorW.PrintWords Go.Proofs.YtblfbdlhphhfnaaGreatDoorW.PrintLast
set_option linter.unusedVariables false
set_option linter.unusedSimpArgs false
set_option maxHeartbeats 4000000 in
set_option maxRecDepth 100000 in
theorem of_op6 (key : ByteArray) (A : Option Addr) (c : Nat) (vals : List ByteArray) (n : Int) (w : World) (hr : Kd.C Kd.string w A vals.length vals) (hc : vals.length ≤ c) (hk : key.size ≤ 140737488351232) (hs : ∀ s ∈ vals, s.size ≤ 140737488351232) (hG : GL w) (he : wrongP key 6 vals n = 0) (hl8 : vals.length ≤ 8) (hn1 : -2147483648 ≤ n) (hn2 : n ≤ 2147483648) :
    Calls Tryz.prog 40 #[.agg #[.string key, .int .i64 6, .slice A vals.length c, .int .i64 n]] w (OfEnd w (ofP key 6 vals n)) := by
  have hp : ofP key 6 vals n = ((numbersP (-2147483648) (n - 1) []).1, 0) := by unfold ofP; rw [if_pos he]; rfl
  rw [hp]
  clear hp
  have hwr : IntKind.i64.wrap (n - 1) = n - 1 := IntWalk.i64_in _ (by omega)
  have HR := Lib.hid hr
  have hnl : vals.length ≤ 9223372036854775807 := hr.2.1
  clear hr
  have hu42 := Tryz.underlying42
  have hb0 : Below w.heap.size w ((w.alloc (.cells #[.string key, .int .i64 6, .slice A vals.length c, .int .i64 n] 25)).alloc (.cells setZero 42)) := ((Below.refl w.heap.size w).alloc (Nat.le_refl _) _).alloc (by simp) _
  have hbox : ((w.alloc (.cells #[.string key, .int .i64 6, .slice A vals.length c, .int .i64 n] 25)).alloc (.cells setZero 42)).heap[w.heap.size]? = _ := blk_alloc (blk_new _ _) _
  have hset : ((w.alloc (.cells #[.string key, .int .i64 6, .slice A vals.length c, .int .i64 n] 25)).alloc (.cells setZero 42)).heap[w.heap.size + 1]? = some (.cells setZero 42 (0, 0)) := by have := blk_new (w.alloc (.cells #[.string key, .int .i64 6, .slice A vals.length c, .int .i64 n] 25)) (.cells setZero 42); simpa using this
  go_enter Tryz.func40, Tryz.ntmps40
  go_wp2_with (first
    | (go_at_call 57; refine (wrong_walk key 6 A c vals n _ (Kd.C_below HR.out hb0) hc hk hs (GL.of_below hG hb0)).mono ?_; rintro e w1 ⟨rfl, hb1⟩; rw [he]; have hbx := blk_below hbox hb1; have hst := blk_below hset hb1; obtain ⟨k0, k1, k2, k3⟩ := four_cells hbx; obtain ⟨fc, ff⟩ := six_facts (show w1.heap[w.heap.size + 1]? = some (.cells #[.bool false, .bool false, .bool false, .slice none 0 0, .int .i64 0, .int .i64 0] 42 (0, 0)) from hst); have hbw := below_then hb0 hb0.size hb1)
    | (go_at_call 42; refine (group_one _ (heap_alloc_new _ _) (Kd.C_below HR.out (hbw.alloc hbw.size _)) hc hs (by omega)).mono ?_; rintro e w2 ⟨b, rfl, hge, hset2, hb2⟩)
    | (go_at_call 44; refine (valset_rising.calls b (groupS vals) _ hset2 (by have := length_groupS vals; omega)).mono ?_; rintro e w3 ⟨v, rfl, hR, hb3⟩; obtain ⟨Av, cv, rfl⟩ := Kd.R_slice hR; have hbx3 := blk_below (blk_below (blk_alloc hbx (.cells #[.slice A vals.length c] 23)) hb2) hb3; have hst3 := blk_below (blk_below (blk_alloc hst (.cells #[.slice A vals.length c] 23)) hb2) hb3; obtain ⟨j0, j1, j2, j3⟩ := four_cells hbx3; obtain ⟨gc, gf⟩ := six_facts (show w3.heap[w.heap.size + 1]? = some (.cells #[.bool false, .bool false, .bool false, .slice none 0 0, .int .i64 0, .int .i64 0] 42 (0, 0)) from hst3); have hz1 : w.heap.size < w3.heap.size := blk_lt hbx3; have hz2 : w.heap.size + 1 < w3.heap.size := blk_lt hst3; have hbw3 := below_then (below_then (hbw.alloc hbw.size (.cells #[.slice A vals.length c] 23)) (hbw.alloc hbw.size (.cells #[.slice A vals.length c] 23)).size hb2) (below_then (hbw.alloc hbw.size (.cells #[.slice A vals.length c] 23)) (hbw.alloc hbw.size (.cells #[.slice A vals.length c] 23)).size hb2).size hb3; have hR3 := Kd.R_lower hR (below_then (hbw.alloc hbw.size (.cells #[.slice A vals.length c] 23)) (hbw.alloc hbw.size (.cells #[.slice A vals.length c] 23)).size hb2).size))
  have hzZ := blk_new w3 (.cells #[.bool false, .bool false, .bool false, .slice Av (groupS vals).length cv, .int .i64 0, .int .i64 0] 42)
  have hstZ := blk_alloc hst3 (.cells #[.bool false, .bool false, .bool false, .slice Av (groupS vals).length cv, .int .i64 0, .int .i64 0] 42)
  have hbZ := hbw3.alloc hbw3.size (.cells #[.bool false, .bool false, .bool false, .slice Av (groupS vals).length cv, .int .i64 0, .int .i64 0] 42)
  have hcA : (w3.alloc (.cells #[.bool false, .bool false, .bool false, .slice Av (groupS vals).length cv, .int .i64 0, .int .i64 0] 42)).cell? ⟨w.heap.size, 3, none⟩ = some (.int .i64 n) := pw_cell_below ((Below.refl _ w3).alloc (Nat.le_refl _) _) j3
  have hcD : (w3.alloc (.cells #[.bool false, .bool false, .bool false, .slice Av (groupS vals).length cv, .int .i64 0, .int .i64 0] 42)).drew.cell? ⟨w.heap.size, 3, none⟩ = some (.int .i64 n) := pw_cell_below (below_drew ((Below.refl _ w3).alloc (Nat.le_refl _) _)) j3
  have hne : w.heap.size + 1 ≠ w3.heap.size := by omega
  go_region_with (first | (go_at_call 42; refine (group_none _).mono ?_; rintro e w4 ⟨b2, rfl, hge2, hsE, hb4⟩; have hc4 : w4.cell? ⟨w.heap.size, 3, none⟩ = some (.int .i64 n) := pw_cell_below hb4 (by first | exact hcA | exact hcD)) | (go_at_call 45; refine (numbers_walk (-2147483648) (n - 1) b2 [] _ _ hb4 hge2 hsE (by omega) (by omega) (by omega) (by omega) (by simp) (by simp) (by first | exact GL.of_below hG hbZ | exact GL.of_below hG (below_drew hbZ))).mono ?_; rintro e w5 ⟨v5, rfl, hR5, hb5⟩; obtain ⟨A5, c5, rfl⟩ := Kd.R_slice hR5; have hz5 : w5.heap[w3.heap.size]? = some (.cells #[.bool false, .bool false, .bool false, .slice Av (groupS vals).length cv, .int .i64 0, .int .i64 0] 42 (0, 0)) := (by first | exact blk_below hzZ hb5 | exact blk_below (blk_drew hzZ) hb5); have hst5 : w5.heap[w.heap.size + 1]? = some (.cells #[.bool false, .bool false, .bool false, .slice none 0 0, .int .i64 0, .int .i64 0] 42 (0, 0)) := (by first | exact blk_below hstZ hb5 | exact blk_below (blk_drew hstZ) hb5); obtain ⟨mc, mf⟩ := six_facts (show w5.heap[w3.heap.size]? = some (.cells #[.bool false, .bool false, .bool false, .slice Av (groupS vals).length cv, .int .i64 0, .int .i64 0] 42 (0, 0)) from hz5); obtain ⟨nc, nf⟩ := six_facts (show w5.heap[w.heap.size + 1]? = some (.cells #[.bool false, .bool false, .bool false, .slice none 0 0, .int .i64 0, .int .i64 0] 42 (0, 0)) from hst5); have hbw5 : Below w.heap.size w w5 := (by first | exact below_then hbZ hbZ.size hb5 | exact below_then (below_drew hbZ) hbZ.size hb5); have hR6 := Kd.R_lower hR5 (show w.heap.size ≤ _ from hbZ.size)))
  all_goals (go_wp2_with fail)
  all_goals (
    have hb6 := six_below hbw5 (show w.heap.size ≤ w3.heap.size by omega) (.bool (numbersP (-2147483648) (n - 1) []).1.miss) (.bool (numbersP (-2147483648) (n - 1) []).1.neg) (.bool (numbersP (-2147483648) (n - 1) []).1.num) (.slice A5 (numbersP (-2147483648) (n - 1) []).1.vals.length c5) (.int .i64 (numbersP (-2147483648) (n - 1) []).1.lo) (.int .i64 (numbersP (-2147483648) (n - 1) []).1.hi)
    have hz6 := six_far hst5 hne (.bool (numbersP (-2147483648) (n - 1) []).1.miss) (.bool (numbersP (-2147483648) (n - 1) []).1.neg) (.bool (numbersP (-2147483648) (n - 1) []).1.num) (.slice A5 (numbersP (-2147483648) (n - 1) []).1.vals.length c5) (.int .i64 (numbersP (-2147483648) (n - 1) []).1.lo) (.int .i64 (numbersP (-2147483648) (n - 1) []).1.hi)
    refine bodyPost_ret (results_ct rfl _ _ (w.heap.size + 1) 42 #[.bool (numbersP (-2147483648) (n - 1) []).1.miss, .bool (numbersP (-2147483648) (n - 1) []).1.neg, .bool (numbersP (-2147483648) (n - 1) []).1.num, .slice A5 (numbersP (-2147483648) (n - 1) []).1.vals.length c5, .int .i64 (numbersP (-2147483648) (n - 1) []).1.lo, .int .i64 (numbersP (-2147483648) (n - 1) []).1.hi] (0, 0) _ rfl (six_put hz6 _ _ _ _ _ _) Tryz.underlying42 rfl (by kernel_rfl)) rfl ?_
    exact ⟨_, rfl, six_R hz6 (by decide) (six_R hz5 (by decide) hR6 _ _ _ _ _ _) _ _ _ _ _ _, six_below hb6 (by omega) _ _ _ _ _ _⟩)
theorem wrongP_ok {key : ByteArray} {op : Int} {vals : List ByteArray} {n : Int} (h : wrongP key op vals n = 0) : vals.length ≤ 8 ∧ -2147483648 ≤ n ∧ n ≤ 2147483648 ∧ 1 ≤ op ∧ op ≤ 6 := by
  unfold wrongP at h
  split at h
  · cases h
  split at h
  · cases h
  next h1 h2 =>
    split at h
    · cases h
    next h3 =>
      have hb : badOp op vals n = false := by simpa using h2
      unfold badOp at hb
      simp only [Bool.or_eq_false_iff, decide_eq_false_iff_not] at hb
      omega
theorem of_walk (key : ByteArray) (op : Int) (A : Option Addr) (c : Nat) (vals : List ByteArray) (n : Int) (w : World) (hr : Kd.C Kd.string w A vals.length vals) (hc : vals.length ≤ c) (hk : key.size ≤ 140737488351232) (hs : ∀ s ∈ vals, s.size ≤ 140737488351232) (hG : GL w) :
    Calls Tryz.prog 40 #[.agg #[.string key, .int .i64 op, .slice A vals.length c, .int .i64 n]] w (OfEnd w (ofP key op vals n)) := by
  by_cases he : wrongP key op vals n = 0
  · obtain ⟨h8, h1, h2, h3, h4⟩ := wrongP_ok he
    have hcs : op = 1 ∨ op = 2 ∨ op = 3 ∨ op = 4 ∨ op = 5 ∨ op = 6 := by omega
    rcases hcs with h | h | h | h | h | h <;> subst h
    · exact of_op1 key A c vals n w hr hc hk hs hG he h8
    · exact of_op2 key A c vals n w hr hc hk hs hG he h8
    · exact of_op3 key A c vals n w hr hc hk hs hG he h8
    · exact of_op4 key A c vals n w hr hc hk hs hG he h8
    · exact of_op5 key A c vals n w hr hc hk hs hG he h8 h1 h2
    · exact of_op6 key A c vals n w hr hc hk hs hG he h8 h1 h2
  · exact of_err key op A c vals n w hr hc hk hs hG he
end Go.Proofs.YtblfbdlhphhfnaaGreatDoor.PA
namespace Go.Proofs.YtblfbdlhphhfnaaGreatDoor.PA
open Go.RowKit Go.Proofs.YtblfbdlhphhfnaaGreatDoorW.PrintWords Go.Proofs.YtblfbdlhphhfnaaGreatDoorW.PrintLast
set_option linter.unusedVariables false
/-- A set and a number, flat. -/
def flat7 (p : PSet × Int) : Bool × Bool × Bool × List ByteArray × Int × Int × Int := (p.1.miss, p.1.neg, p.1.num, p.1.vals, p.1.lo, p.1.hi, p.2)
def valset_Of.f (a0_0 : ByteArray) (a0_1 : Int) (l0_2 : List ByteArray) (a0_3 : Int) : Option (Bool × Bool × Bool × List ByteArray × Int × Int × Int) :=
  if a0_0.size ≤ 140737488351232 then (if smallL l0_2 = true then some (flat7 (ofP a0_0 a0_1 l0_2 a0_3)) else none) else none
theorem valset_Of.calls (a0_0 : ByteArray) (a0_1 : Int) (A0_2 : Option Addr) (c0_2 : Nat) (l0_2 : List ByteArray) (a0_3 : Int) (r1 : Bool) (r2 : Bool) (r3 : Bool) (r4 : List ByteArray) (r5 : Int) (r6 : Int) (r7 : Int) (w : World) (hr0_2 : Kd.C Kd.string w A0_2 l0_2.length l0_2) (hc0_2 : l0_2.length ≤ c0_2) (hG : GL w) (h : valset_Of.f a0_0 a0_1 l0_2 a0_3 = some (r1, r2, r3, r4, r5, r6, r7)) :
    Calls Tryz.prog 40 #[.agg #[.string a0_0, .int .i64 a0_1, .slice A0_2 l0_2.length c0_2, .int .i64 a0_3]] w fun e w' => ∃ v3_ : Value, e = .returned (.tuple #[.agg #[.bool r1, .bool r2, .bool r3, v3_, .int .i64 r5, .int .i64 r6], .int .i64 r7]) ∧ Kd.R Kd.string 9 w' w.heap.size (fun _ => True) v3_ r4 ∧ Below w.heap.size w w' := by
  unfold valset_Of.f at h
  by_cases hk : a0_0.size ≤ 140737488351232
  · rw [if_pos hk] at h
    by_cases hs : smallL l0_2 = true
    · rw [if_pos hs] at h
      have h2 := Option.some.inj h
      unfold flat7 at h2
      simp only [Prod.mk.injEq] at h2
      obtain ⟨rfl, rfl, rfl, rfl, rfl, rfl, rfl⟩ := h2
      exact of_walk a0_0 a0_1 A0_2 c0_2 l0_2 a0_3 w hr0_2 hc0_2 hk ((smallL_iff _).1 hs) hG
    · rw [if_neg hs] at h; cases h
  · rw [if_neg hk] at h; cases h
end Go.Proofs.YtblfbdlhphhfnaaGreatDoor.PA
