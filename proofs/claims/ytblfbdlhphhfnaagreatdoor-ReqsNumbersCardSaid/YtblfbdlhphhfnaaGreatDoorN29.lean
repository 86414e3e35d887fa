import Derived.Test.YtblfbdlhphhfnaaGreatDoorN8
import Derived.Test.YtblfbdlhphhfnaaGreatDoorN14
import Derived.Test.YtblfbdlhphhfnaaGreatDoorN16
import Derived.Test.YtblfbdlhphhfnaaGreatDoorN19
import Derived.Test.YtblfbdlhphhfnaaGreatDoorN20
import Derived.Test.YtblfbdlhphhfnaaGreatDoorN22
import Derived.Test.YtblfbdlhphhfnaaGreatDoorN25
import Derived.Test.YtblfbdlhphhfnaaGreatDoorN26
import Derived.IntWalk
import Derived.Deep.DeepCutAuto
namespace Go.Proofs.YtblfbdlhphhfnaaGreatDoor.PA
open Go.RowKit Go.Maps Go.Sort Go.Shelf Go.Proofs.YtblfbdlhphhfnaaGreatDoorW.PrintWords Go.Proofs.YtblfbdlhphhfnaaGreatDoorW.PrintLast
set_option linter.unusedVariables false
set_option linter.unusedSimpArgs false
set_option maxHeartbeats 4000000 in
set_option maxRecDepth 100000 in
theorem meet_err1 (m1 n1 u1 : Bool) (A1 : Option Addr) (c1 : Nat) (l1 : List ByteArray) (lo1 hi1 : Int) (m2 n2 u2 : Bool) (A2 : Option Addr) (c2 : Nat) (l2 : List ByteArray) (lo2 hi2 : Int) (w : World) (hr1 : Kd.C Kd.string w A1 l1.length l1) (hc1 : l1.length ≤ c1) (hs1 : ∀ s ∈ l1, s.size ≤ 140737488351232) (hr2 : Kd.C Kd.string w A2 l2.length l2) (hc2 : l2.length ≤ c2) (hs2 : ∀ s ∈ l2, s.size ≤ 140737488351232) (hG : GL w) (he : checkP n1 u1 l1 lo1 hi1 ≠ 0) :
    Calls Tryz.prog 22 #[.agg #[.bool m1, .bool n1, .bool u1, .slice A1 l1.length c1, .int .i64 lo1, .int .i64 hi1], .agg #[.bool m2, .bool n2, .bool u2, .slice A2 l2.length c2, .int .i64 lo2, .int .i64 hi2]] w (OfEnd w (meetP ⟨m1, n1, u1, l1, lo1, hi1⟩ ⟨m2, n2, u2, l2, lo2, hi2⟩)) := by
  have hp : meetP ⟨m1, n1, u1, l1, lo1, hi1⟩ ⟨m2, n2, u2, l2, lo2, hi2⟩ = (zeroSet, checkP n1 u1 l1 lo1 hi1) := by unfold meetP; rw [if_neg he]
  rw [hp]
  clear hp
  obtain ⟨E, hE⟩ : ∃ E, checkP n1 u1 l1 lo1 hi1 = E := ⟨_, rfl⟩
  rw [hE] at he ⊢
  have HB : (E != 0) = true := by simpa using he
  have HE := Lib.hid hE; clear hE
  have HR1 := Lib.hid hr1
  have HR2 := Lib.hid hr2
  have hnl1 : l1.length ≤ 9223372036854775807 := hr1.2.1
  have hnl2 : l2.length ≤ 9223372036854775807 := hr2.2.1
  clear hr1 hr2
  have hu42 := Tryz.underlying42
  have hb0 : Below w.heap.size w (((w.alloc (.cells #[.bool m1, .bool n1, .bool u1, .slice A1 l1.length c1, .int .i64 lo1, .int .i64 hi1] 42)).alloc (.cells #[.bool m2, .bool n2, .bool u2, .slice A2 l2.length c2, .int .i64 lo2, .int .i64 hi2] 42)).alloc (.cells setZero 42)) := (((Below.refl w.heap.size w).alloc (Nat.le_refl _) _).alloc (by simp) _).alloc (by simp; omega) _
  have hx0 : (((w.alloc (.cells #[.bool m1, .bool n1, .bool u1, .slice A1 l1.length c1, .int .i64 lo1, .int .i64 hi1] 42)).alloc (.cells #[.bool m2, .bool n2, .bool u2, .slice A2 l2.length c2, .int .i64 lo2, .int .i64 hi2] 42)).alloc (.cells setZero 42)).heap[w.heap.size]? = _ := blk_alloc (blk_alloc (blk_new _ _) _) _
  have hy0 : (((w.alloc (.cells #[.bool m1, .bool n1, .bool u1, .slice A1 l1.length c1, .int .i64 lo1, .int .i64 hi1] 42)).alloc (.cells #[.bool m2, .bool n2, .bool u2, .slice A2 l2.length c2, .int .i64 lo2, .int .i64 hi2] 42)).alloc (.cells setZero 42)).heap[w.heap.size + 1]? = some (.cells #[.bool m2, .bool n2, .bool u2, .slice A2 l2.length c2, .int .i64 lo2, .int .i64 hi2] 42 (0, 0)) := by have := blk_alloc (blk_new (w.alloc (.cells #[.bool m1, .bool n1, .bool u1, .slice A1 l1.length c1, .int .i64 lo1, .int .i64 hi1] 42)) (.cells #[.bool m2, .bool n2, .bool u2, .slice A2 l2.length c2, .int .i64 lo2, .int .i64 hi2] 42)) (.cells setZero 42); simpa using this
  have hz0 : (((w.alloc (.cells #[.bool m1, .bool n1, .bool u1, .slice A1 l1.length c1, .int .i64 lo1, .int .i64 hi1] 42)).alloc (.cells #[.bool m2, .bool n2, .bool u2, .slice A2 l2.length c2, .int .i64 lo2, .int .i64 hi2] 42)).alloc (.cells setZero 42)).heap[w.heap.size + 2]? = some (.cells setZero 42 (0, 0)) := by have := blk_new ((w.alloc (.cells #[.bool m1, .bool n1, .bool u1, .slice A1 l1.length c1, .int .i64 lo1, .int .i64 hi1] 42)).alloc (.cells #[.bool m2, .bool n2, .bool u2, .slice A2 l2.length c2, .int .i64 lo2, .int .i64 hi2] 42)) (.cells setZero 42); simpa using this
  go_enter Tryz.func22, Tryz.ntmps22
  go_wp2_with (first | (go_at_call 41; refine (check_walk m1 n1 u1 A1 c1 l1 lo1 hi1 _ (Kd.C_below HR1.out hb0) hc1 hs1 (GL.of_below hG hb0)).mono ?_; rintro e w1 ⟨rfl, hb1⟩; rw [HE.out]; have hx1 := blk_below hx0 hb1; have hy1 := blk_below hy0 hb1; have hz1 := blk_below hz0 hb1; obtain ⟨xc1, xf1⟩ := six_facts hx1; obtain ⟨yc1, yf1⟩ := six_facts hy1; obtain ⟨zc1, zf1⟩ := six_facts (show w1.heap[w.heap.size + 2]? = some (.cells #[.bool false, .bool false, .bool false, .slice none 0 0, .int .i64 0, .int .i64 0] 42 (0, 0)) from hz1); have hbw1 := below_then hb0 hb0.size hb1))
  refine bodyPost_ret (results_ct rfl _ _ (w.heap.size + 2) 42 #[.bool false, .bool false, .bool false, .slice none 0 0, .int .i64 0, .int .i64 0] (0, 0) _ rfl (six_put hz1 _ _ _ _ _ _) Tryz.underlying42 rfl (by kernel_rfl)) rfl ?_
  exact ⟨_, rfl, Kd.R_nil _ _ _ _ _, six_below hbw1 (by omega) _ _ _ _ _ _⟩
set_option maxHeartbeats 4000000 in
set_option maxRecDepth 100000 in
theorem meet_err2 (m1 n1 u1 : Bool) (A1 : Option Addr) (c1 : Nat) (l1 : List ByteArray) (lo1 hi1 : Int) (m2 n2 u2 : Bool) (A2 : Option Addr) (c2 : Nat) (l2 : List ByteArray) (lo2 hi2 : Int) (w : World) (hr1 : Kd.C Kd.string w A1 l1.length l1) (hc1 : l1.length ≤ c1) (hs1 : ∀ s ∈ l1, s.size ≤ 140737488351232) (hr2 : Kd.C Kd.string w A2 l2.length l2) (hc2 : l2.length ≤ c2) (hs2 : ∀ s ∈ l2, s.size ≤ 140737488351232) (hG : GL w) (h1 : checkP n1 u1 l1 lo1 hi1 = 0) (he : checkP n2 u2 l2 lo2 hi2 ≠ 0) :
    Calls Tryz.prog 22 #[.agg #[.bool m1, .bool n1, .bool u1, .slice A1 l1.length c1, .int .i64 lo1, .int .i64 hi1], .agg #[.bool m2, .bool n2, .bool u2, .slice A2 l2.length c2, .int .i64 lo2, .int .i64 hi2]] w (OfEnd w (meetP ⟨m1, n1, u1, l1, lo1, hi1⟩ ⟨m2, n2, u2, l2, lo2, hi2⟩)) := by
  have hp : meetP ⟨m1, n1, u1, l1, lo1, hi1⟩ ⟨m2, n2, u2, l2, lo2, hi2⟩ = (zeroSet, checkP n2 u2 l2 lo2 hi2) := by unfold meetP; rw [if_pos h1, if_neg he]
  rw [hp]
  clear hp
  obtain ⟨E, hE⟩ : ∃ E, checkP n2 u2 l2 lo2 hi2 = E := ⟨_, rfl⟩
  rw [hE] at he ⊢
  have HB : (E != 0) = true := by simpa using he
  have HE := Lib.hid hE; clear hE
  have H1 := Lib.hid h1; clear h1
  have HR1 := Lib.hid hr1
  have HR2 := Lib.hid hr2
  have hnl1 : l1.length ≤ 9223372036854775807 := hr1.2.1
  have hnl2 : l2.length ≤ 9223372036854775807 := hr2.2.1
  clear hr1 hr2
  have hu42 := Tryz.underlying42
  have hb0 : Below w.heap.size w (((w.alloc (.cells #[.bool m1, .bool n1, .bool u1, .slice A1 l1.length c1, .int .i64 lo1, .int .i64 hi1] 42)).alloc (.cells #[.bool m2, .bool n2, .bool u2, .slice A2 l2.length c2, .int .i64 lo2, .int .i64 hi2] 42)).alloc (.cells setZero 42)) := (((Below.refl w.heap.size w).alloc (Nat.le_refl _) _).alloc (by simp) _).alloc (by simp; omega) _
  have hx0 : (((w.alloc (.cells #[.bool m1, .bool n1, .bool u1, .slice A1 l1.length c1, .int .i64 lo1, .int .i64 hi1] 42)).alloc (.cells #[.bool m2, .bool n2, .bool u2, .slice A2 l2.length c2, .int .i64 lo2, .int .i64 hi2] 42)).alloc (.cells setZero 42)).heap[w.heap.size]? = _ := blk_alloc (blk_alloc (blk_new _ _) _) _
  have hy0 : (((w.alloc (.cells #[.bool m1, .bool n1, .bool u1, .slice A1 l1.length c1, .int .i64 lo1, .int .i64 hi1] 42)).alloc (.cells #[.bool m2, .bool n2, .bool u2, .slice A2 l2.length c2, .int .i64 lo2, .int .i64 hi2] 42)).alloc (.cells setZero 42)).heap[w.heap.size + 1]? = some (.cells #[.bool m2, .bool n2, .bool u2, .slice A2 l2.length c2, .int .i64 lo2, .int .i64 hi2] 42 (0, 0)) := by have := blk_alloc (blk_new (w.alloc (.cells #[.bool m1, .bool n1, .bool u1, .slice A1 l1.length c1, .int .i64 lo1, .int .i64 hi1] 42)) (.cells #[.bool m2, .bool n2, .bool u2, .slice A2 l2.length c2, .int .i64 lo2, .int .i64 hi2] 42)) (.cells setZero 42); simpa using this
  have hz0 : (((w.alloc (.cells #[.bool m1, .bool n1, .bool u1, .slice A1 l1.length c1, .int .i64 lo1, .int .i64 hi1] 42)).alloc (.cells #[.bool m2, .bool n2, .bool u2, .slice A2 l2.length c2, .int .i64 lo2, .int .i64 hi2] 42)).alloc (.cells setZero 42)).heap[w.heap.size + 2]? = some (.cells setZero 42 (0, 0)) := by have := blk_new ((w.alloc (.cells #[.bool m1, .bool n1, .bool u1, .slice A1 l1.length c1, .int .i64 lo1, .int .i64 hi1] 42)).alloc (.cells #[.bool m2, .bool n2, .bool u2, .slice A2 l2.length c2, .int .i64 lo2, .int .i64 hi2] 42)) (.cells setZero 42); simpa using this
  go_enter Tryz.func22, Tryz.ntmps22
  go_upto_region 4 with (first | (go_at_call 41; refine (check_walk m1 n1 u1 A1 c1 l1 lo1 hi1 _ (Kd.C_below HR1.out hb0) hc1 hs1 (GL.of_below hG hb0)).mono ?_; rintro e w1 ⟨rfl, hb1⟩; rw [H1.out]; have hx1 := blk_below hx0 hb1; have hy1 := blk_below hy0 hb1; have hz1 := blk_below hz0 hb1; obtain ⟨xc1, xf1⟩ := six_facts hx1; obtain ⟨yc1, yf1⟩ := six_facts hy1; obtain ⟨zc1, zf1⟩ := six_facts (show w1.heap[w.heap.size + 2]? = some (.cells #[.bool false, .bool false, .bool false, .slice none 0 0, .int .i64 0, .int .i64 0] 42 (0, 0)) from hz1); have hbw1 := below_then hb0 hb0.size hb1))
  go_wp2_with (first | (go_at_call 41; refine (check_walk m2 n2 u2 A2 c2 l2 lo2 hi2 _ (Kd.C_below HR2.out hbw1) hc2 hs2 (GL.of_below hG hbw1)).mono ?_; rintro e w2 ⟨rfl, hb2⟩; rw [HE.out]; have hx2 := blk_below hx1 hb2; have hy2 := blk_below hy1 hb2; have hz2 := blk_below hz1 hb2; obtain ⟨xc2, xf2⟩ := six_facts hx2; obtain ⟨yc2, yf2⟩ := six_facts hy2; obtain ⟨zc2, zf2⟩ := six_facts (show w2.heap[w.heap.size + 2]? = some (.cells #[.bool false, .bool false, .bool false, .slice none 0 0, .int .i64 0, .int .i64 0] 42 (0, 0)) from hz2); have hbw2 := below_then hbw1 hbw1.size hb2))
  refine bodyPost_ret (results_ct rfl _ _ (w.heap.size + 2) 42 #[.bool false, .bool false, .bool false, .slice none 0 0, .int .i64 0, .int .i64 0] (0, 0) _ rfl (six_put hz2 _ _ _ _ _ _) Tryz.underlying42 rfl (by kernel_rfl)) rfl ?_
  exact ⟨_, rfl, Kd.R_nil _ _ _ _ _, six_below hbw2 (by omega) _ _ _ _ _ _⟩
end Go.Proofs.YtblfbdlhphhfnaaGreatDoor.PA
namespace Go.Proofs.YtblfbdlhphhfnaaGreatDoor.PA
open Go.RowKit Go.Maps Go.Sort Go.Shelf Go.Proofs.YtblfbdlhphhfnaaGreatDoorW.PrintWords Go.Proofs.YtblfbdlhphhfnaaGreatDoorW.PrintLast
set_option linter.unusedVariables false
set_option linter.unusedSimpArgs false
theorem index_pure (l : List ByteArray) (v : ByteArray) (hl : l.length ≤ 9223372036854775807) : ∀ (d i : Nat), i + d = l.length → ∃ t : Int, slices_Index_string_string.l0 (d + 1) l v (l.length : Int) (i : Int) = some t ∧ (decide (t ≥ 0)) = memS (l.drop i) v
  | 0, i, h => by
    refine ⟨-1, ?_, ?_⟩
    · rw [slices_Index_string_string.l0, if_neg (by omega)]
    · rw [List.drop_eq_nil_of_le (by omega)]; rfl
  | d + 1, i, h => by
    have hi : i < l.length := by omega
    rw [slices_Index_string_string.l0, if_pos (by omega), if_pos (by omega), if_pos (by omega)]
    have hrd : rdOf ByteArray.empty l (i : Int) = l[i] := by simp [rdOf, List.getD_eq_getElem?_getD, List.getElem?_eq_getElem hi]
    rw [hrd, List.drop_eq_getElem_cons hi, show memS (l[i] :: l.drop (i + 1)) v = (decide (l[i] = v) || memS (l.drop (i + 1)) v) by unfold memS; rw [List.any_cons]]
    by_cases he : v.toList = l[i].toList
    · refine ⟨(i : Int), by rw [if_pos he], ?_⟩
      have hv : v = l[i] := by rw [ByteArray.toList_eq, ByteArray.toList_eq] at he; exact ba_ext he
      rw [decide_eq_true hv.symm]; simp
    · rw [if_neg he, show wrap64 ((i : Int) + 1) = (i : Int) + 1 by unfold wrap64; omega]
      obtain ⟨t, h1, h2⟩ := index_pure l v hl d (i + 1) (by omega)
      refine ⟨t, by rw [← h1]; rfl, ?_⟩
      rw [h2]
      rw [decide_eq_false (fun hb => he (by rw [hb])), Bool.false_or]
theorem has_pure (miss neg num : Bool) (vals : List ByteArray) (lo hi : Int) (v : ByteArray) (hl : vals.length ≤ 9223372036854775807) (hv : v.size ≤ 140737488351232) :
    valset_has.f (vals.length + 1) miss neg num vals lo hi v = some (hasP neg num vals lo hi v) := by
  obtain ⟨t, h1, h2⟩ := index_pure vals v hl vals.length 0 (by omega)
  have hc : slices_Contains_string_string.f (vals.length + 1) vals v = some (memS vals v) := by
    unfold slices_Contains_string_string.f slices_Index_string_string.f
    rw [show (0 : Int) = ((0 : Nat) : Int) by rfl, h1]
    simp [h2]
  unfold valset_has.f hasP
  rw [hc]
  simp only [Option.bind_some]
  by_cases h : (neg != memS vals v) = true
  · rw [if_pos h, if_pos h]
    cases num with
    | false => simp
    | true =>
      unfold valset_Number.f
      rw [if_pos hv]
      cases hn : numR v.data.toList with
      | mk n is =>
        cases is with
        | false => simp
        | true => by_cases hq : lo ≤ n <;> simp [hq]
  · rw [if_neg h, if_neg h]
end Go.Proofs.YtblfbdlhphhfnaaGreatDoor.PA
