import Derived.Test.YtblfbdlhphhfnaaGreatDoorN8
import Derived.Test.YtblfbdlhphhfnaaGreatDoorN14
import Derived.Test.YtblfbdlhphhfnaaGreatDoorN16
import Derived.Test.YtblfbdlhphhfnaaGreatDoorN19
import Derived.Test.YtblfbdlhphhfnaaGreatDoorN20
import Derived.Test.YtblfbdlhphhfnaaGreatDoorN25
import Derived.Test.YtblfbdlhphhfnaaGreatDoorN29
import Derived.IntWalk
import Derived.Deep.DeepCutAuto
namespace Go.Proofs.YtblfbdlhphhfnaaGreatDoor.PA
open Go.RowKit Go.Maps Go.Sort Go.Shelf Go.Proofs.YtblfbdlhphhfnaaGreatDoorW.PrintWords Go.Proofs.YtblfbdlhphhfnaaGreatDoorW.PrintLast
set_option linter.unusedVariables false
set_option linter.unusedSimpArgs false
theorem one_R {W : World} {g t : Nat} {cs : Array Value} {α : Type} {d : Kd α} {e : Nat} {base : Nat} {ok : Nat → Prop} {v : Value} {xs : List α} (h : W.heap[g]? = some (.cells cs t (0, 0))) (ht : ∀ q, q ∈ e :: d.E → q ≠ t) (hR : d.R e W base ok v xs) (i : Nat) (u : Value) :
    d.R e (W.setCell ⟨g, i, none⟩ u) base ok v xs := Kd.R_mono (Kd.R_far (p := ⟨g, i, none⟩) (Kd.R_types hR h ht) (fun _ hk => hk.2) u) (fun _ hk => hk.1)
theorem set_grown1 (W : World) (p : Addr) (v : Value) : W.grownBy (W.setCell p v) (some p.block) :=
  ⟨rfl, rfl, rfl, by simp, fun i hi hne => Below.heap_setCell W p v i (fun e => hne (by rw [e]))⟩
theorem SetAt.six {W : World} {b g : Nat} {S : List ByteArray} (h : SetAt W b S) (hne : b ≠ g) (v0 v1 v2 v3 v4 v5 : Value) : SetAt (six W g v0 v1 v2 v3 v4 v5) b S := by
  have hn : some b ≠ some g := fun e => hne (Option.some.inj e)
  exact (((((h.kept (set_grown1 _ ⟨g, 0, none⟩ v0) hn).kept (set_grown1 _ ⟨g, 1, none⟩ v1) hn).kept (set_grown1 _ ⟨g, 2, none⟩ v2) hn).kept (set_grown1 _ ⟨g, 3, none⟩ v3) hn).kept (set_grown1 _ ⟨g, 4, none⟩ v4) hn).kept (set_grown1 _ ⟨g, 5, none⟩ v5) hn
set_option maxHeartbeats 4000000 in
set_option maxRecDepth 100000 in
theorem meet_ok (m1 n1 u1 : Bool) (A1 : Option Addr) (c1 : Nat) (l1 : List ByteArray) (lo1 hi1 : Int) (m2 n2 u2 : Bool) (A2 : Option Addr) (c2 : Nat) (l2 : List ByteArray) (lo2 hi2 : Int) (w : World) (hr1 : Kd.C Kd.string w A1 l1.length l1) (hc1 : l1.length ≤ c1) (hs1 : ∀ s ∈ l1, s.size ≤ 140737488351232) (hr2 : Kd.C Kd.string w A2 l2.length l2) (hc2 : l2.length ≤ c2) (hs2 : ∀ s ∈ l2, s.size ≤ 140737488351232) (hG : GL w) (h1 : checkP n1 u1 l1 lo1 hi1 = 0) (h2 : checkP n2 u2 l2 lo2 hi2 = 0) :
    Calls Tryz.prog 22 #[.agg #[.bool m1, .bool n1, .bool u1, .slice A1 l1.length c1, .int .i64 lo1, .int .i64 hi1], .agg #[.bool m2, .bool n2, .bool u2, .slice A2 l2.length c2, .int .i64 lo2, .int .i64 hi2]] w (OfEnd w (meetP ⟨m1, n1, u1, l1, lo1, hi1⟩ ⟨m2, n2, u2, l2, lo2, hi2⟩)) := by
  have HR1 := Lib.hid hr1
  have HR2 := Lib.hid hr2
  have hnl1 : l1.length ≤ 9223372036854775807 := hr1.2.1
  have hnl2 : l2.length ≤ 9223372036854775807 := hr2.2.1
  clear hr1 hr2
  have hu42 := Tryz.underlying42
  have hb0 : Below w.heap.size w (((w.alloc (.cells #[.bool m1, .bool n1, .bool u1, .slice A1 l1.length c1, .int .i64 lo1, .int .i64 hi1] 42)).alloc (.cells #[.bool m2, .bool n2, .bool u2, .slice A2 l2.length c2, .int .i64 lo2, .int .i64 hi2] 42)).alloc (.cells setZero 42)) := (((Below.refl w.heap.size w).alloc (Nat.le_refl _) _).alloc (by simp) _).alloc (by simp; omega) _
  have hx0 : (((w.alloc (.cells #[.bool m1, .bool n1, .bool u1, .slice A1 l1.length c1, .int .i64 lo1, .int .i64 hi1] 42)).alloc (.cells #[.bool m2, .bool n2, .bool u2, .slice A2 l2.length c2, .int .i64 lo2, .int .i64 hi2] 42)).alloc (.cells setZero 42)).heap[w.heap.size]? = _ := blk_alloc (blk_alloc (blk_new _ _) _) _
  have hy0 : (((w.alloc (.cells #[.bool m1, .bool n1, .bool u1, .slice A1 l1.length c1, .int .i64 lo1, .int .i64 hi1] 42)).alloc (.cells #[.bool m2, .bool n2, .bool u2, .slice A2 l2.length c2, .int .i64 lo2, .int .i64 hi2] 42)).alloc (.cells setZero 42)).heap[w.heap.size + 1]? = some (.cells #[.bool m2, .bool n2, .bool u2, .slice A2 l2.length c2, .int .i64 lo2, .int .i64 hi2] 42 (0, 0)) := by have := blk_alloc (blk_new (w.alloc (.cells #[.bool m1, .bool n1, .bool u1, .slice A1 l1.length c1, .int .i64 lo1, .int .i64 hi1] 42)) (.cells #[.bool m2, .bool n2, .bool u2, .slice A2 l2.length c2, .int .i64 lo2, .int .i64 hi2] 42)) (.cells setZero 42); simpa using this
  have hz0 : (((w.alloc (.cells #[.bool m1, .bool n1, .bool u1, .slice A1 l1.length c1, .int .i64 lo1, .int .i64 hi1] 42)).alloc (.cells #[.bool m2, .bool n2, .bool u2, .slice A2 l2.length c2, .int .i64 lo2, .int .i64 hi2] 42)).alloc (.cells setZero 42)).heap[w.heap.size + 2]? = some (.cells setZero 42 (0, 0)) := by have := blk_new ((w.alloc (.cells #[.bool m1, .bool n1, .bool u1, .slice A1 l1.length c1, .int .i64 lo1, .int .i64 hi1] 42)).alloc (.cells #[.bool m2, .bool n2, .bool u2, .slice A2 l2.length c2, .int .i64 lo2, .int .i64 hi2] 42)) (.cells setZero 42); simpa using this
  have H1 := Lib.hid h1
  have H2 := Lib.hid h2
  clear h1 h2
  have HS1 := Lib.hid hs1
  have HS2 := Lib.hid hs2
  go_enter Tryz.func22, Tryz.ntmps22
  go_upto_region 4 with (first | (go_at_call 41; refine (check_walk m1 n1 u1 A1 c1 l1 lo1 hi1 _ (Kd.C_below HR1.out hb0) hc1 hs1 (GL.of_below hG hb0)).mono ?_; rintro e w1 ⟨rfl, hb1⟩; rw [H1.out]; have hx1 := blk_below hx0 hb1; have hy1 := blk_below hy0 hb1; have hz1 := blk_below hz0 hb1; obtain ⟨xc1, xf1⟩ := six_facts hx1; obtain ⟨yc1, yf1⟩ := six_facts hy1; obtain ⟨zc1, zf1⟩ := six_facts (show w1.heap[w.heap.size + 2]? = some (.cells #[.bool false, .bool false, .bool false, .slice none 0 0, .int .i64 0, .int .i64 0] 42 (0, 0)) from hz1); have hbw1 := below_then hb0 hb0.size hb1))
  go_upto_region 7 with (first | (go_at_call 41; refine (check_walk m2 n2 u2 A2 c2 l2 lo2 hi2 _ (Kd.C_below HR2.out hbw1) hc2 hs2 (GL.of_below hG hbw1)).mono ?_; rintro e w2 ⟨rfl, hb2⟩; rw [H2.out]; have hx2 := blk_below hx1 hb2; have hy2 := blk_below hy1 hb2; have hz2 := blk_below hz1 hb2; obtain ⟨xc2, xf2⟩ := six_facts hx2; obtain ⟨yc2, yf2⟩ := six_facts hy2; obtain ⟨zc2, zf2⟩ := six_facts (show w2.heap[w.heap.size + 2]? = some (.cells #[.bool false, .bool false, .bool false, .slice none 0 0, .int .i64 0, .int .i64 0] 42 (0, 0)) from hz2); have hbw2 := below_then hbw1 hbw1.size hb2))
  go_cut [44] (fun b wx => b = .bool (swapB ⟨m1, n1, u1, l1, lo1, hi1⟩ ⟨m2, n2, u2, l2, lo2, hi2⟩) ∧ wx = w2)
  case first =>
    cases n1 <;> cases n2 <;> cases u1 <;> cases u2
    all_goals go_wp2_with fail
    all_goals go_meet
    all_goals exact ⟨rfl, rfl⟩
  case rest =>
    obtain ⟨rfl, rfl⟩ := hcut
    go_upto_if 44 with fail
    go_cut [] (fun wx => ∃ (m3 n3 u3 : Bool) (A3 : Option Addr) (c3 : Nat) (l3 : List ByteArray) (lo3 hi3 : Int) (m4 n4 u4 : Bool) (A4 : Option Addr) (c4 : Nat) (l4 : List ByteArray) (lo4 hi4 : Int),
    Hid (meetP ⟨m1, n1, u1, l1, lo1, hi1⟩ ⟨m2, n2, u2, l2, lo2, hi2⟩ = meet2 ⟨m3, n3, u3, l3, lo3, hi3⟩ ⟨m4, n4, u4, l4, lo4, hi4⟩) ∧ Hid (Kd.C Kd.string wx A3 l3.length l3) ∧ l3.length ≤ c3 ∧ Hid (∀ s ∈ l3, s.size ≤ 140737488351232) ∧ Hid (Kd.C Kd.string wx A4 l4.length l4) ∧ l4.length ≤ c4 ∧ Hid (∀ s ∈ l4, s.size ≤ 140737488351232) ∧ Hid (checkP n3 u3 l3 lo3 hi3 = 0) ∧ Hid (checkP n4 u4 l4 lo4 hi4 = 0) ∧
    Below w.heap.size w wx ∧ wx.heap[w.heap.size]? = some (.cells #[.bool m3, .bool n3, .bool u3, .slice A3 l3.length c3, .int .i64 lo3, .int .i64 hi3] 42 (0, 0)) ∧ wx.heap[w.heap.size + 1]? = some (.cells #[.bool m4, .bool n4, .bool u4, .slice A4 l4.length c4, .int .i64 lo4, .int .i64 hi4] 42 (0, 0)) ∧ wx.heap[w.heap.size + 2]? = some (.cells setZero 42 (0, 0)))
    case first =>
      cases hsw : swapB ⟨m1, n1, u1, l1, lo1, hi1⟩ ⟨m2, n2, u2, l2, lo2, hi2⟩ with
      | false =>
        go_wp2_with fail
        go_meet
        exact ⟨m1, n1, u1, A1, c1, l1, lo1, hi1, m2, n2, u2, A2, c2, l2, lo2, hi2, Lib.hid (by unfold meetP; rw [if_pos H1.out, if_pos H2.out, if_neg (by rw [hsw]; decide)]), Lib.hid (Kd.C_below HR1.out hbw2), hc1, HS1, Lib.hid (Kd.C_below HR2.out hbw2), hc2, HS2, H1, H2, hbw2, hx2, hy2, hz2⟩
      | true =>
        go_wp2_with fail
        go_meet
        have hq1 := six_below (six_below hbw2 (Nat.le_refl _) (.bool m2) (.bool n2) (.bool u2) (.slice A2 l2.length c2) (.int .i64 lo2) (.int .i64 hi2)) (show w.heap.size ≤ w.heap.size + 1 by omega) (.bool m1) (.bool n1) (.bool u1) (.slice A1 l1.length c1) (.int .i64 lo1) (.int .i64 hi1)
        have hne1 : w.heap.size ≠ w.heap.size + 1 := by omega
        have hne2 : w.heap.size + 2 ≠ w.heap.size := by omega
        have hne3 : w.heap.size + 2 ≠ w.heap.size + 1 := by omega
        have hq2 := six_far (six_put hx2 (.bool m2) (.bool n2) (.bool u2) (.slice A2 l2.length c2) (.int .i64 lo2) (.int .i64 hi2)) hne1 (.bool m1) (.bool n1) (.bool u1) (.slice A1 l1.length c1) (.int .i64 lo1) (.int .i64 hi1)
        have hq3 := six_put (six_far hy2 hne1.symm (.bool m2) (.bool n2) (.bool u2) (.slice A2 l2.length c2) (.int .i64 lo2) (.int .i64 hi2)) (.bool m1) (.bool n1) (.bool u1) (.slice A1 l1.length c1) (.int .i64 lo1) (.int .i64 hi1)
        have hq4 := six_far (six_far hz2 hne2 (.bool m2) (.bool n2) (.bool u2) (.slice A2 l2.length c2) (.int .i64 lo2) (.int .i64 hi2)) hne3 (.bool m1) (.bool n1) (.bool u1) (.slice A1 l1.length c1) (.int .i64 lo1) (.int .i64 hi1)
        exact ⟨m2, n2, u2, A2, c2, l2, lo2, hi2, m1, n1, u1, A1, c1, l1, lo1, hi1, Lib.hid (by unfold meetP; rw [if_pos H1.out, if_pos H2.out, if_pos hsw]), Lib.hid (Kd.C_below HR2.out hq1), hc2, HS2, Lib.hid (Kd.C_below HR1.out hq1), hc1, HS1, H2, H1, hq1, hq2, hq3, hq4⟩
    case rest =>
      obtain ⟨m3, n3, u3, A3, c3, l3, lo3, hi3, m4, n4, u4, A4, c4, l4, lo4, hi4, HP, HR3, hc3, HS3, HR4, hc4, HS4, H3, H4, hbx, hxx, hyx, hzx⟩ := hcut
      clear hb0 hx0 hy0 hz0 hx1 hy1 hz1 xc1 xf1 yc1 yf1 zc1 zf1 hx2 hy2 hz2 xc2 xf2 yc2 yf2 zc2 zf2 hbw2 hbw1 hb1 hb2 H1 H2 HS1 HS2 HR1 HR2 hs1 hs2
      have hl3 := (checkP_ok H3.out).1
      have hl4 := (checkP_ok H4.out).1
      have hnl4 : l4.length ≤ 9223372036854775807 := by omega
      have wxF := six_facts hxx
      have wyF := six_facts hyx
      have wxL : w.heap.size < wc.heap.size := blk_lt hxx
      have wyL : w.heap.size + 1 < wc.heap.size := blk_lt hyx
      have wzL : w.heap.size + 2 < wc.heap.size := blk_lt hzx
      have hB2 : Below wc.heap.size wc ((wc.alloc (.cells #[.bool false, .bool false, .bool false, .slice none 0 0, .int .i64 0, .int .i64 0] 42)).alloc (.cells #[.slice A3 l3.length c3, .slice A4 l4.length c4] 23)) := ((Below.refl _ wc).alloc (Nat.le_refl _) _).alloc (by simp) _
      have hC3 := Lib.hid (Kd.C_below HR3.out hB2)
      have hC4 := Lib.hid (Kd.C_below HR4.out hB2)
      have hrow : Hid (((wc.alloc (.cells #[.bool false, .bool false, .bool false, .slice none 0 0, .int .i64 0, .int .i64 0] 42)).alloc (.cells #[.slice A3 l3.length c3, .slice A4 l4.length c4] 23)).heap[wc.heap.size + 1]? = some (.cells #[.slice A3 l3.length c3, .slice A4 l4.length c4] 23 (0, 0))) := Lib.hid (by have := blk_new (wc.alloc (.cells #[.bool false, .bool false, .bool false, .slice none 0 0, .int .i64 0, .int .i64 0] 42)) (.cells #[.slice A3 l3.length c3, .slice A4 l4.length c4] 23); simpa using this)
      go_upto_region 13 with (first | (go_at_call 42; refine (group_two _ hrow.out hC3.out hc3 hC4.out hc4 HS3.out HS4.out (by omega) (by omega)).mono ?_; rintro e w5 ⟨b, rfl, hge, hsE, hb5⟩))
      clear wxF wyF
      have hbc5 : Below wc.heap.size wc w5 := below_then hB2 hB2.size hb5
      have hx5 := blk_below hxx hbc5
      have hy5 := blk_below hyx hbc5
      have hz5 := blk_below hzx hbc5
      have ho5 : w5.heap[wc.heap.size]? = some (.cells #[.bool false, .bool false, .bool false, .slice none 0 0, .int .i64 0, .int .i64 0] 42 (0, 0)) := blk_below (blk_alloc (blk_new wc _) _) hb5
      have hc5x := six_facts hx5
      have hc5y := six_facts hy5
      have hc5o := six_facts ho5
      have hwc5 : wc.heap.size < w5.heap.size := blk_lt ho5
      cases n3 with
      | false =>
        go_wp2_with fail
        go_loopw [12, 75] (fun _ i wr => ∃ (k : Nat) (u : Value), k ≤ l3.length ∧ i = .int .i64 k ∧ Kd.R Kd.string 9 wr wc.heap.size (fun _ => True) u ((l3.take k).filter (hasP n4 u4 l4 lo4 hi4)) ∧ Below wc.heap.size wc wr ∧ wr.heap[wc.heap.size]? = some (.cells #[.bool false, .bool false, .bool false, u, .int .i64 0, .int .i64 0] 42 (0, 0))) (fun _ i _ => l3.length - (intOf i).toNat)
        case atStart => exact ⟨0, _, Nat.zero_le _, rfl, Kd.R_nil _ _ _ _ _, hbc5, ho5⟩
        case round =>
          clear hc5x hc5y hc5o hx5 hy5 hz5 ho5 hbc5 hsE hb5 hge hwc5
          obtain ⟨k, u, hk, rfl, hR, hbr, hor⟩ := hrel
          obtain ⟨Au, cu, rfl⟩ := Kd.R_slice hR
          have hxr := blk_below hxx hbr
          have hyr := blk_below hyx hbr
          have hzr := blk_below hzx hbr
          have fx := six_facts hxr
          have fy := six_facts hyr
          have fo := six_facts hor
          have fz := six_facts (show wr.heap[w.heap.size + 2]? = some (.cells #[.bool false, .bool false, .bool false, .slice none 0 0, .int .i64 0, .int .i64 0] 42 (0, 0)) from hzr)
          by_cases hlt : k < l3.length
          · obtain ⟨ad, cs, hadA, _, hK, hcell⟩ := Kd.C_get (Kd.C_below HR3.out hbr) ByteArray.empty k (by omega) (by omega)
            subst hadA
            have hK' : cs = [.string (l3.getD k ByteArray.empty)] := by simpa [Kd.string, Kd.scalar] using hK
            subst hK'
            have hx : wr.cell? (ad.add k) = some (.string (l3.getD k ByteArray.empty)) := by simpa [Kd.string, Kd.scalar] using hcell 0 _ rfl
            clear hcell hK
            obtain ⟨v, ev⟩ : ∃ v, v = l3.getD k ByteArray.empty := ⟨_, rfl⟩
            have hvs : v.size ≤ 140737488351232 := HS3.out v (by rw [ev, List.getD_eq_getElem?_getD, List.getElem?_eq_getElem hlt]; exact List.getElem_mem _)
            have htk := take_snocS l3 k hlt
            rw [← ev] at hx htk
            have HTK := Lib.hid htk
            clear htk ev
            have hhas := has_pure m4 n4 u4 l4 lo4 hi4 v hnl4 hvs
            have hbw := below_then hbx hbx.size hbr
            cases hh : hasP n4 u4 l4 lo4 hi4 v with
            | false =>
              rw [hh] at hhas
              have HH := Lib.hid hh; clear hh
              go_wp2_with (first | (go_at_call 43; refine (valset_has.calls (l4.length + 1) m4 n4 u4 A4 c4 l4 lo4 hi4 v false _ (Kd.C_below HR4.out hbr) hc4 (GL.of_below hG hbw) hhas).mono ?_; rintro e w6 ⟨rfl, hb6⟩))
              go_roundw
              case rel => exact ⟨k + 1, _, by omega, by go_num, by rw [HTK.out, List.filter_append, List.filter_cons, HH.out]; simpa using Kd.R_below hR hb6, below_then hbr hbr.size hb6, blk_below hor hb6⟩
              case measure => show l3.length - ((k : Int) + 1).toNat < l3.length - (k : Int).toNat; omega
            | true =>
              rw [hh] at hhas
              have HH := Lib.hid hh; clear hh
              have hfl : ((l3.take k).filter (hasP n4 u4 l4 lo4 hi4)).length ≤ 64 := by
                have := List.length_filter_le (hasP n4 u4 l4 lo4 hi4) (l3.take k)
                rw [List.length_take] at this; omega
              obtain ⟨F, eF⟩ : ∃ F, F = (l3.take k).filter (hasP n4 u4 l4 lo4 hi4) := ⟨_, rfl⟩
              rw [← eF] at hR hor fo hfl
              have HF : Hid ((l3.take (k + 1)).filter (hasP n4 u4 l4 lo4 hi4) = F ++ [v]) := Lib.hid (by rw [HTK.out, List.filter_append, List.filter_cons, HH.out, eF]; simp)
              clear eF
              go_wp2_with (first
                | (go_at_call 43; refine (valset_has.calls (l4.length + 1) m4 n4 u4 A4 c4 l4 lo4 hi4 v true _ (Kd.C_below HR4.out hbr) hc4 (GL.of_below hG hbw) hhas).mono ?_; rintro e w6 ⟨rfl, hb6⟩; have hor6 := blk_below hor hb6; have fo6 := six_facts hor6; have hR6 := Kd.R_below hR hb6; have hbr6 := below_then hbr hbr.size hb6; have hol6 : wc.heap.size < w6.heap.size := blk_lt hor6)
                | (at_builtin; refine Kd.R_append Kd.string (w0 := wc) wc.heap.size rfl _ _ 23 9 (.string ⟨#[]⟩) 16 rfl Tryz.underlying23 info9 rfl (by decide) (by omega) (.slice Au F.length cu) F v [.string v] (fun _ => True) (fun _ => False) rfl rfl rfl (fun _ hk => hk.elim) (fun _ _ => trivial) hR6 hbr6 hbr6.size (by omega) ?_; intro v7 w7 hR7 hb7 hg7 hat7; obtain ⟨A7, c7, rfl⟩ := Kd.R_slice hR7; rw [show (F ++ [v]).length = F.length + 1 by simp] at hR7; have hor7 := blk_grown hor6 hg7 (Kd.R_ne hR6 hor6 (by decide)); have fo7 := six_facts hor7))
              go_roundw
              case rel => exact ⟨k + 1, _, by omega, by go_num, by rw [HF.out]; exact one_R hor7 (by decide) hR7 3 _, hb7.setCell (p := ⟨wc.heap.size, 3, none⟩) (Nat.le_refl _) _, blk_put hor7 3 _ rfl⟩
              case measure => show l3.length - ((k : Int) + 1).toNat < l3.length - (k : Int).toNat; omega
          · have hke : k = l3.length := by omega
            subst hke
            have hM : Hid (meet2 ⟨m3, false, u3, l3, lo3, hi3⟩ ⟨m4, n4, u4, l4, lo4, hi4⟩ = (⟨m3 && m4, false, false, (l3.take l3.length).filter (hasP n4 u4 l4 lo4 hi4), 0, 0⟩, 0)) := Lib.hid (by rw [List.take_length]; rfl)
            obtain ⟨F, eF⟩ : ∃ F, F = (l3.take l3.length).filter (hasP n4 u4 l4 lo4 hi4) := ⟨_, rfl⟩
            rw [← eF] at hR hor fo hM
            clear eF
            have hbw := below_then hbx hbx.size hbr
            have hne5 : w.heap.size + 2 ≠ wc.heap.size := by omega
            cases m3
            · go_wp2_with fail
              refine bodyPost_ret (results_ct rfl _ _ (w.heap.size + 2) 42 #[.bool false, .bool false, .bool false, .slice Au F.length cu, .int .i64 0, .int .i64 0] (0, 0) _ rfl (six_put (blk_far (p := ⟨wc.heap.size, 0, none⟩) hzr hne5 _) _ _ _ _ _ _) Tryz.underlying42 rfl (by kernel_rfl)) rfl ?_
              rw [HP.out, hM.out]
              exact ⟨_, rfl, six_R (blk_far (p := ⟨wc.heap.size, 0, none⟩) hzr hne5 _) (by decide) (one_R hor (by decide) (Kd.R_lower hR hbx.size) 0 _) _ _ _ _ _ _, six_below (hbw.setCell (p := ⟨wc.heap.size, 0, none⟩) hbx.size _) (by omega) _ _ _ _ _ _⟩
            · go_wp2_with fail
              refine bodyPost_ret (results_ct rfl _ _ (w.heap.size + 2) 42 #[.bool m4, .bool false, .bool false, .slice Au F.length cu, .int .i64 0, .int .i64 0] (0, 0) _ rfl (six_put (blk_far (p := ⟨wc.heap.size, 0, none⟩) hzr hne5 _) _ _ _ _ _ _) Tryz.underlying42 rfl (by kernel_rfl)) rfl ?_
              rw [HP.out, hM.out]
              exact ⟨_, by cases m4 <;> rfl, six_R (blk_far (p := ⟨wc.heap.size, 0, none⟩) hzr hne5 _) (by decide) (one_R hor (by decide) (Kd.R_lower hR hbx.size) 0 _) _ _ _ _ _ _, six_below (hbw.setCell (p := ⟨wc.heap.size, 0, none⟩) hbx.size _) (by omega) _ _ _ _ _ _⟩
      | true =>
        obtain ⟨G, eG⟩ : ∃ G, G = groupS (l3 ++ l4) := ⟨_, rfl⟩
        have hGl : G.length ≤ 128 := by have := length_groupS (l3 ++ l4); rw [List.length_append] at this; rw [eG]; omega
        rw [← eG] at hsE
        have hne5 : w.heap.size + 2 ≠ wc.heap.size := by omega
        cases u4 with
        | false =>
          have hbne : b ≠ wc.heap.size := by have h1 : (((wc.alloc (.cells #[.bool false, .bool false, .bool false, .slice none 0 0, .int .i64 0, .int .i64 0] 42)).alloc (.cells #[.slice A3 l3.length c3, .slice A4 l4.length c4] 23))).heap.size ≤ b := hge; simp at h1; omega
          have hlow : w.heap.size ≤ w5.heap.size := by omega
          by_cases hle : (G.length : Int) ≤ 64
          · have hM : Hid (meet2 ⟨m3, true, u3, l3, lo3, hi3⟩ ⟨m4, n4, false, l4, lo4, hi4⟩ = (⟨m3 && m4, true, false, G, 0, 0⟩, 0)) := Lib.hid (by unfold meet2 meet1; simp [← eG]; omega)
            clear eG hge
            cases m3
            · go_wp2_with (first | (go_at_call 44; refine (valset_rising.calls b G _ hsE (by omega)).mono ?_; rintro e w6 ⟨v6, rfl, hR6, hb6⟩; obtain ⟨A6, c6, rfl⟩ := Kd.R_slice hR6; have hbc6 := below_then hbc5 hbc5.size hb6; have hx6 := blk_below hx5 hb6; have hy6 := blk_below hy5 hb6; have hz6 := blk_below hz5 hb6; have ho6 := blk_below ho5 hb6; have fx6 := six_facts hx6; have fy6 := six_facts hy6; have fo6 := six_facts ho6; have fz6 := six_facts (show w6.heap[w.heap.size + 2]? = some (.cells #[.bool false, .bool false, .bool false, .slice none 0 0, .int .i64 0, .int .i64 0] 42 (0, 0)) from hz6); have hlen6 := fun ty => run_set_len ((hsE.below hb6).six hbne (.bool false) (.bool true) (.bool false) (.slice A6 G.length c6) (.int .i64 0) (.int .i64 0)) ty; unfold six at hlen6))
              have hz7 := blk_far (p := ⟨wc.heap.size, 0, none⟩) (six_far hz6 hne5 (.bool false) (.bool true) (.bool false) (.slice A6 G.length c6) (.int .i64 0) (.int .i64 0)) hne5 (.bool false)
              have ho7 := six_put ho6 (.bool false) (.bool true) (.bool false) (.slice A6 G.length c6) (.int .i64 0) (.int .i64 0)
              have hbw6 := (six_below (below_then hbx hbx.size hbc6) hbx.size (.bool false) (.bool true) (.bool false) (.slice A6 G.length c6) (.int .i64 0) (.int .i64 0)).setCell (p := ⟨wc.heap.size, 0, none⟩) hbx.size (.bool false)
              refine bodyPost_ret (results_ct rfl _ _ (w.heap.size + 2) 42 #[.bool false, .bool true, .bool false, .slice A6 G.length c6, .int .i64 0, .int .i64 0] (0, 0) _ rfl (six_put hz7 _ _ _ _ _ _) Tryz.underlying42 rfl (by kernel_rfl)) rfl ?_
              rw [HP.out, hM.out]
              exact ⟨_, rfl, six_R hz7 (by decide) (one_R ho7 (by decide) (six_R ho6 (by decide) (Kd.R_lower hR6 hlow) _ _ _ _ _ _) 0 _) _ _ _ _ _ _, six_below hbw6 (by omega) _ _ _ _ _ _⟩
            · go_wp2_with (first | (go_at_call 44; refine (valset_rising.calls b G _ hsE (by omega)).mono ?_; rintro e w6 ⟨v6, rfl, hR6, hb6⟩; obtain ⟨A6, c6, rfl⟩ := Kd.R_slice hR6; have hbc6 := below_then hbc5 hbc5.size hb6; have hx6 := blk_below hx5 hb6; have hy6 := blk_below hy5 hb6; have hz6 := blk_below hz5 hb6; have ho6 := blk_below ho5 hb6; have fx6 := six_facts hx6; have fy6 := six_facts hy6; have fo6 := six_facts ho6; have fz6 := six_facts (show w6.heap[w.heap.size + 2]? = some (.cells #[.bool false, .bool false, .bool false, .slice none 0 0, .int .i64 0, .int .i64 0] 42 (0, 0)) from hz6); have hlen6 := fun ty => run_set_len ((hsE.below hb6).six hbne (.bool false) (.bool true) (.bool false) (.slice A6 G.length c6) (.int .i64 0) (.int .i64 0)) ty; unfold six at hlen6))
              have hz7 := blk_far (p := ⟨wc.heap.size, 0, none⟩) (six_far hz6 hne5 (.bool false) (.bool true) (.bool false) (.slice A6 G.length c6) (.int .i64 0) (.int .i64 0)) hne5 (.bool m4)
              have ho7 := six_put ho6 (.bool false) (.bool true) (.bool false) (.slice A6 G.length c6) (.int .i64 0) (.int .i64 0)
              have hbw6 := (six_below (below_then hbx hbx.size hbc6) hbx.size (.bool false) (.bool true) (.bool false) (.slice A6 G.length c6) (.int .i64 0) (.int .i64 0)).setCell (p := ⟨wc.heap.size, 0, none⟩) hbx.size (.bool m4)
              refine bodyPost_ret (results_ct rfl _ _ (w.heap.size + 2) 42 #[.bool m4, .bool true, .bool false, .slice A6 G.length c6, .int .i64 0, .int .i64 0] (0, 0) _ rfl (six_put hz7 _ _ _ _ _ _) Tryz.underlying42 rfl (by kernel_rfl)) rfl ?_
              rw [HP.out, hM.out]
              exact ⟨_, by cases m4 <;> rfl, six_R hz7 (by decide) (one_R ho7 (by decide) (six_R ho6 (by decide) (Kd.R_lower hR6 hlow) _ _ _ _ _ _) 0 _) _ _ _ _ _ _, six_below hbw6 (by omega) _ _ _ _ _ _⟩
          · have hM : Hid (meet2 ⟨m3, true, u3, l3, lo3, hi3⟩ ⟨m4, n4, false, l4, lo4, hi4⟩ = (zeroSet, 3)) := Lib.hid (by unfold meet2 meet1; simp [← eG]; omega)
            have hle2 : decide ((G.length : Int) ≤ 64) = false := decide_eq_false hle
            clear hle
            clear eG hge
            go_wp2_with (first | (go_at_call 44; refine (valset_rising.calls b G _ hsE (by omega)).mono ?_; rintro e w6 ⟨v6, rfl, hR6, hb6⟩; obtain ⟨A6, c6, rfl⟩ := Kd.R_slice hR6; have hbc6 := below_then hbc5 hbc5.size hb6; have hx6 := blk_below hx5 hb6; have hy6 := blk_below hy5 hb6; have hz6 := blk_below hz5 hb6; have ho6 := blk_below ho5 hb6; have fx6 := six_facts hx6; have fy6 := six_facts hy6; have fo6 := six_facts ho6; have fz6 := six_facts (show w6.heap[w.heap.size + 2]? = some (.cells #[.bool false, .bool false, .bool false, .slice none 0 0, .int .i64 0, .int .i64 0] 42 (0, 0)) from hz6); have hlen6 := fun ty => run_set_len ((hsE.below hb6).six hbne (.bool false) (.bool true) (.bool false) (.slice A6 G.length c6) (.int .i64 0) (.int .i64 0)) ty; unfold six at hlen6))
            have hz7 := six_far hz6 hne5 (.bool false) (.bool true) (.bool false) (.slice A6 G.length c6) (.int .i64 0) (.int .i64 0)
            have hbw6 := six_below (below_then hbx hbx.size hbc6) hbx.size (.bool false) (.bool true) (.bool false) (.slice A6 G.length c6) (.int .i64 0) (.int .i64 0)
            refine bodyPost_ret (results_ct rfl _ _ (w.heap.size + 2) 42 #[.bool false, .bool false, .bool false, .slice none 0 0, .int .i64 0, .int .i64 0] (0, 0) _ rfl (six_put hz7 _ _ _ _ _ _) Tryz.underlying42 rfl (by kernel_rfl)) rfl ?_
            rw [HP.out, hM.out]
            exact ⟨_, rfl, Kd.R_nil _ _ _ _ _, six_below hbw6 (by omega) _ _ _ _ _ _⟩
        | true =>
          have hq4 := (checkP_ok H4.out).2.2.1 rfl
          cases u3 with
          | false =>
            have hGs : ∀ s ∈ G, s.size ≤ 140737488351232 := by
              intro s hs
              rw [eG, mem_groupS, List.mem_append] at hs
              rcases hs with hs | hs
              · exact HS3.out s hs
              · exact HS4.out s hs
            have hoW : ((wc.alloc (.cells #[.bool false, .bool false, .bool false, .slice none 0 0, .int .i64 0, .int .i64 0] 42)).alloc (.cells #[.slice A3 l3.length c3, .slice A4 l4.length c4] 23)).heap[wc.heap.size]? = some (.cells #[.bool false, .bool false, .bool false, .slice none 0 0, .int .i64 0, .int .i64 0] 42 (0, 0)) := blk_alloc (blk_new wc _) _
            have hbW : Below w.heap.size w ((wc.alloc (.cells #[.bool false, .bool false, .bool false, .slice none 0 0, .int .i64 0, .int .i64 0] 42)).alloc (.cells #[.slice A3 l3.length c3, .slice A4 l4.length c4] 23)) := below_then hbx hbx.size hB2
            have hnw := numbers_walk (lo4) (hi4) b G ((wc.alloc (.cells #[.bool false, .bool false, .bool false, .slice none 0 0, .int .i64 0, .int .i64 0] 42)).alloc (.cells #[.slice A3 l3.length c3, .slice A4 l4.length c4] 23)) w5 hb5 hge hsE (by omega) (by omega) (by omega) (by omega) hGs (by omega) (GL.of_below hG hbW)
            have hlow : w.heap.size ≤ ((wc.alloc (.cells #[.bool false, .bool false, .bool false, .slice none 0 0, .int .i64 0, .int .i64 0] 42)).alloc (.cells #[.slice A3 l3.length c3, .slice A4 l4.length c4] 23)).heap.size := hbW.size
            have hm1 : meet1 ⟨m3, true, false, l3, lo3, hi3⟩ ⟨m4, n4, true, l4, lo4, hi4⟩ = numbersP (lo4) (hi4) G := by unfold meet1; rw [eG]; rfl
            rcases hPq : numbersP (lo4) (hi4) G with ⟨⟨pm, pn, pu, pv, pl, ph⟩, pok⟩
            rw [hPq] at hnw hm1
            have hPQ := Lib.hid hPq
            clear hPq eG hge hGs
            cases pok with
            | true =>
              have hM : Hid (meet2 ⟨m3, true, false, l3, lo3, hi3⟩ ⟨m4, n4, true, l4, lo4, hi4⟩ = (⟨m3 && m4, pn, pu, pv, pl, ph⟩, 0)) := Lib.hid (by unfold meet2; rw [hm1]; rfl)
              clear hm1
              cases m3
              · go_wp2_with (first | (go_at_call 45; refine hnw.mono ?_; rintro e w6 ⟨v6, rfl, hR6, hb6⟩; obtain ⟨A6, c6, rfl⟩ := Kd.R_slice hR6; have hbc6 := below_then hB2 hB2.size hb6; have hx6 := blk_below (blk_alloc (blk_alloc hxx _) _) hb6; have hy6 := blk_below (blk_alloc (blk_alloc hyx _) _) hb6; have hz6 := blk_below (blk_alloc (blk_alloc hzx _) _) hb6; have ho6 := blk_below hoW hb6; have fx6 := six_facts hx6; have fy6 := six_facts hy6; have fo6 := six_facts ho6; have fz6 := six_facts (show w6.heap[w.heap.size + 2]? = some (.cells #[.bool false, .bool false, .bool false, .slice none 0 0, .int .i64 0, .int .i64 0] 42 (0, 0)) from hz6)))
                have hz7 := blk_far (p := ⟨wc.heap.size, 0, none⟩) (six_far hz6 hne5 (.bool pm) (.bool pn) (.bool pu) (.slice A6 pv.length c6) (.int .i64 pl) (.int .i64 ph)) hne5 (.bool false)
                have ho7 := six_put ho6 (.bool pm) (.bool pn) (.bool pu) (.slice A6 pv.length c6) (.int .i64 pl) (.int .i64 ph)
                have hbw6 := (six_below (below_then hbx hbx.size hbc6) hbx.size (.bool pm) (.bool pn) (.bool pu) (.slice A6 pv.length c6) (.int .i64 pl) (.int .i64 ph)).setCell (p := ⟨wc.heap.size, 0, none⟩) hbx.size (.bool false)
                refine bodyPost_ret (results_ct rfl _ _ (w.heap.size + 2) 42 #[.bool false, .bool pn, .bool pu, .slice A6 pv.length c6, .int .i64 pl, .int .i64 ph] (0, 0) _ rfl (six_put hz7 _ _ _ _ _ _) Tryz.underlying42 rfl (by kernel_rfl)) rfl ?_
                rw [HP.out, hM.out]
                exact ⟨_, rfl, six_R hz7 (by decide) (one_R ho7 (by decide) (six_R ho6 (by decide) (Kd.R_lower hR6 hlow) _ _ _ _ _ _) 0 _) _ _ _ _ _ _, six_below hbw6 (by omega) _ _ _ _ _ _⟩
              · go_wp2_with (first | (go_at_call 45; refine hnw.mono ?_; rintro e w6 ⟨v6, rfl, hR6, hb6⟩; obtain ⟨A6, c6, rfl⟩ := Kd.R_slice hR6; have hbc6 := below_then hB2 hB2.size hb6; have hx6 := blk_below (blk_alloc (blk_alloc hxx _) _) hb6; have hy6 := blk_below (blk_alloc (blk_alloc hyx _) _) hb6; have hz6 := blk_below (blk_alloc (blk_alloc hzx _) _) hb6; have ho6 := blk_below hoW hb6; have fx6 := six_facts hx6; have fy6 := six_facts hy6; have fo6 := six_facts ho6; have fz6 := six_facts (show w6.heap[w.heap.size + 2]? = some (.cells #[.bool false, .bool false, .bool false, .slice none 0 0, .int .i64 0, .int .i64 0] 42 (0, 0)) from hz6)))
                have hz7 := blk_far (p := ⟨wc.heap.size, 0, none⟩) (six_far hz6 hne5 (.bool pm) (.bool pn) (.bool pu) (.slice A6 pv.length c6) (.int .i64 pl) (.int .i64 ph)) hne5 (.bool m4)
                have ho7 := six_put ho6 (.bool pm) (.bool pn) (.bool pu) (.slice A6 pv.length c6) (.int .i64 pl) (.int .i64 ph)
                have hbw6 := (six_below (below_then hbx hbx.size hbc6) hbx.size (.bool pm) (.bool pn) (.bool pu) (.slice A6 pv.length c6) (.int .i64 pl) (.int .i64 ph)).setCell (p := ⟨wc.heap.size, 0, none⟩) hbx.size (.bool m4)
                refine bodyPost_ret (results_ct rfl _ _ (w.heap.size + 2) 42 #[.bool m4, .bool pn, .bool pu, .slice A6 pv.length c6, .int .i64 pl, .int .i64 ph] (0, 0) _ rfl (six_put hz7 _ _ _ _ _ _) Tryz.underlying42 rfl (by kernel_rfl)) rfl ?_
                rw [HP.out, hM.out]
                exact ⟨_, by cases m4 <;> rfl, six_R hz7 (by decide) (one_R ho7 (by decide) (six_R ho6 (by decide) (Kd.R_lower hR6 hlow) _ _ _ _ _ _) 0 _) _ _ _ _ _ _, six_below hbw6 (by omega) _ _ _ _ _ _⟩
            | false =>
              have hM : Hid (meet2 ⟨m3, true, false, l3, lo3, hi3⟩ ⟨m4, n4, true, l4, lo4, hi4⟩ = (zeroSet, 3)) := Lib.hid (by unfold meet2; rw [hm1]; rfl)
              clear hm1
              go_wp2_with (first | (go_at_call 45; refine hnw.mono ?_; rintro e w6 ⟨v6, rfl, hR6, hb6⟩; obtain ⟨A6, c6, rfl⟩ := Kd.R_slice hR6; have hbc6 := below_then hB2 hB2.size hb6; have hx6 := blk_below (blk_alloc (blk_alloc hxx _) _) hb6; have hy6 := blk_below (blk_alloc (blk_alloc hyx _) _) hb6; have hz6 := blk_below (blk_alloc (blk_alloc hzx _) _) hb6; have ho6 := blk_below hoW hb6; have fx6 := six_facts hx6; have fy6 := six_facts hy6; have fo6 := six_facts ho6; have fz6 := six_facts (show w6.heap[w.heap.size + 2]? = some (.cells #[.bool false, .bool false, .bool false, .slice none 0 0, .int .i64 0, .int .i64 0] 42 (0, 0)) from hz6)))
              have hz7 := six_far hz6 hne5 (.bool pm) (.bool pn) (.bool pu) (.slice A6 pv.length c6) (.int .i64 pl) (.int .i64 ph)
              have hbw6 := six_below (below_then hbx hbx.size hbc6) hbx.size (.bool pm) (.bool pn) (.bool pu) (.slice A6 pv.length c6) (.int .i64 pl) (.int .i64 ph)
              refine bodyPost_ret (results_ct rfl _ _ (w.heap.size + 2) 42 #[.bool false, .bool false, .bool false, .slice none 0 0, .int .i64 0, .int .i64 0] (0, 0) _ rfl (six_put hz7 _ _ _ _ _ _) Tryz.underlying42 rfl (by kernel_rfl)) rfl ?_
              rw [HP.out, hM.out]
              exact ⟨_, rfl, Kd.R_nil _ _ _ _ _, six_below hbw6 (by omega) _ _ _ _ _ _⟩
          | true =>
            have hq3 := (checkP_ok H3.out).2.2.1 rfl
            have hGs : ∀ s ∈ G, s.size ≤ 140737488351232 := by
              intro s hs
              rw [eG, mem_groupS, List.mem_append] at hs
              rcases hs with hs | hs
              · exact HS3.out s hs
              · exact HS4.out s hs
            have hoW : ((wc.alloc (.cells #[.bool false, .bool false, .bool false, .slice none 0 0, .int .i64 0, .int .i64 0] 42)).alloc (.cells #[.slice A3 l3.length c3, .slice A4 l4.length c4] 23)).heap[wc.heap.size]? = some (.cells #[.bool false, .bool false, .bool false, .slice none 0 0, .int .i64 0, .int .i64 0] 42 (0, 0)) := blk_alloc (blk_new wc _) _
            have hbW : Below w.heap.size w ((wc.alloc (.cells #[.bool false, .bool false, .bool false, .slice none 0 0, .int .i64 0, .int .i64 0] 42)).alloc (.cells #[.slice A3 l3.length c3, .slice A4 l4.length c4] 23)) := below_then hbx hbx.size hB2
            have hnw := numbers_walk (max lo3 lo4) (min hi3 hi4) b G ((wc.alloc (.cells #[.bool false, .bool false, .bool false, .slice none 0 0, .int .i64 0, .int .i64 0] 42)).alloc (.cells #[.slice A3 l3.length c3, .slice A4 l4.length c4] 23)) w5 hb5 hge hsE (by omega) (by omega) (by omega) (by omega) hGs (by omega) (GL.of_below hG hbW)
            have hlow : w.heap.size ≤ ((wc.alloc (.cells #[.bool false, .bool false, .bool false, .slice none 0 0, .int .i64 0, .int .i64 0] 42)).alloc (.cells #[.slice A3 l3.length c3, .slice A4 l4.length c4] 23)).heap.size := hbW.size
            have hm1 : meet1 ⟨m3, true, true, l3, lo3, hi3⟩ ⟨m4, n4, true, l4, lo4, hi4⟩ = numbersP (max lo3 lo4) (min hi3 hi4) G := by unfold meet1; rw [eG]; rfl
            rcases hPq : numbersP (max lo3 lo4) (min hi3 hi4) G with ⟨⟨pm, pn, pu, pv, pl, ph⟩, pok⟩
            rw [hPq] at hnw hm1
            have hPQ := Lib.hid hPq
            clear hPq eG hge hGs
            cases pok with
            | true =>
              have hM : Hid (meet2 ⟨m3, true, true, l3, lo3, hi3⟩ ⟨m4, n4, true, l4, lo4, hi4⟩ = (⟨m3 && m4, pn, pu, pv, pl, ph⟩, 0)) := Lib.hid (by unfold meet2; rw [hm1]; rfl)
              clear hm1
              cases m3
              · go_wp2_with (first | (go_at_call 45; refine hnw.mono ?_; rintro e w6 ⟨v6, rfl, hR6, hb6⟩; obtain ⟨A6, c6, rfl⟩ := Kd.R_slice hR6; have hbc6 := below_then hB2 hB2.size hb6; have hx6 := blk_below (blk_alloc (blk_alloc hxx _) _) hb6; have hy6 := blk_below (blk_alloc (blk_alloc hyx _) _) hb6; have hz6 := blk_below (blk_alloc (blk_alloc hzx _) _) hb6; have ho6 := blk_below hoW hb6; have fx6 := six_facts hx6; have fy6 := six_facts hy6; have fo6 := six_facts ho6; have fz6 := six_facts (show w6.heap[w.heap.size + 2]? = some (.cells #[.bool false, .bool false, .bool false, .slice none 0 0, .int .i64 0, .int .i64 0] 42 (0, 0)) from hz6)))
                have hz7 := blk_far (p := ⟨wc.heap.size, 0, none⟩) (six_far hz6 hne5 (.bool pm) (.bool pn) (.bool pu) (.slice A6 pv.length c6) (.int .i64 pl) (.int .i64 ph)) hne5 (.bool false)
                have ho7 := six_put ho6 (.bool pm) (.bool pn) (.bool pu) (.slice A6 pv.length c6) (.int .i64 pl) (.int .i64 ph)
                have hbw6 := (six_below (below_then hbx hbx.size hbc6) hbx.size (.bool pm) (.bool pn) (.bool pu) (.slice A6 pv.length c6) (.int .i64 pl) (.int .i64 ph)).setCell (p := ⟨wc.heap.size, 0, none⟩) hbx.size (.bool false)
                refine bodyPost_ret (results_ct rfl _ _ (w.heap.size + 2) 42 #[.bool false, .bool pn, .bool pu, .slice A6 pv.length c6, .int .i64 pl, .int .i64 ph] (0, 0) _ rfl (six_put hz7 _ _ _ _ _ _) Tryz.underlying42 rfl (by kernel_rfl)) rfl ?_
                rw [HP.out, hM.out]
                exact ⟨_, rfl, six_R hz7 (by decide) (one_R ho7 (by decide) (six_R ho6 (by decide) (Kd.R_lower hR6 hlow) _ _ _ _ _ _) 0 _) _ _ _ _ _ _, six_below hbw6 (by omega) _ _ _ _ _ _⟩
              · go_wp2_with (first | (go_at_call 45; refine hnw.mono ?_; rintro e w6 ⟨v6, rfl, hR6, hb6⟩; obtain ⟨A6, c6, rfl⟩ := Kd.R_slice hR6; have hbc6 := below_then hB2 hB2.size hb6; have hx6 := blk_below (blk_alloc (blk_alloc hxx _) _) hb6; have hy6 := blk_below (blk_alloc (blk_alloc hyx _) _) hb6; have hz6 := blk_below (blk_alloc (blk_alloc hzx _) _) hb6; have ho6 := blk_below hoW hb6; have fx6 := six_facts hx6; have fy6 := six_facts hy6; have fo6 := six_facts ho6; have fz6 := six_facts (show w6.heap[w.heap.size + 2]? = some (.cells #[.bool false, .bool false, .bool false, .slice none 0 0, .int .i64 0, .int .i64 0] 42 (0, 0)) from hz6)))
                have hz7 := blk_far (p := ⟨wc.heap.size, 0, none⟩) (six_far hz6 hne5 (.bool pm) (.bool pn) (.bool pu) (.slice A6 pv.length c6) (.int .i64 pl) (.int .i64 ph)) hne5 (.bool m4)
                have ho7 := six_put ho6 (.bool pm) (.bool pn) (.bool pu) (.slice A6 pv.length c6) (.int .i64 pl) (.int .i64 ph)
                have hbw6 := (six_below (below_then hbx hbx.size hbc6) hbx.size (.bool pm) (.bool pn) (.bool pu) (.slice A6 pv.length c6) (.int .i64 pl) (.int .i64 ph)).setCell (p := ⟨wc.heap.size, 0, none⟩) hbx.size (.bool m4)
                refine bodyPost_ret (results_ct rfl _ _ (w.heap.size + 2) 42 #[.bool m4, .bool pn, .bool pu, .slice A6 pv.length c6, .int .i64 pl, .int .i64 ph] (0, 0) _ rfl (six_put hz7 _ _ _ _ _ _) Tryz.underlying42 rfl (by kernel_rfl)) rfl ?_
                rw [HP.out, hM.out]
                exact ⟨_, by cases m4 <;> rfl, six_R hz7 (by decide) (one_R ho7 (by decide) (six_R ho6 (by decide) (Kd.R_lower hR6 hlow) _ _ _ _ _ _) 0 _) _ _ _ _ _ _, six_below hbw6 (by omega) _ _ _ _ _ _⟩
            | false =>
              have hM : Hid (meet2 ⟨m3, true, true, l3, lo3, hi3⟩ ⟨m4, n4, true, l4, lo4, hi4⟩ = (zeroSet, 3)) := Lib.hid (by unfold meet2; rw [hm1]; rfl)
              clear hm1
              go_wp2_with (first | (go_at_call 45; refine hnw.mono ?_; rintro e w6 ⟨v6, rfl, hR6, hb6⟩; obtain ⟨A6, c6, rfl⟩ := Kd.R_slice hR6; have hbc6 := below_then hB2 hB2.size hb6; have hx6 := blk_below (blk_alloc (blk_alloc hxx _) _) hb6; have hy6 := blk_below (blk_alloc (blk_alloc hyx _) _) hb6; have hz6 := blk_below (blk_alloc (blk_alloc hzx _) _) hb6; have ho6 := blk_below hoW hb6; have fx6 := six_facts hx6; have fy6 := six_facts hy6; have fo6 := six_facts ho6; have fz6 := six_facts (show w6.heap[w.heap.size + 2]? = some (.cells #[.bool false, .bool false, .bool false, .slice none 0 0, .int .i64 0, .int .i64 0] 42 (0, 0)) from hz6)))
              have hz7 := six_far hz6 hne5 (.bool pm) (.bool pn) (.bool pu) (.slice A6 pv.length c6) (.int .i64 pl) (.int .i64 ph)
              have hbw6 := six_below (below_then hbx hbx.size hbc6) hbx.size (.bool pm) (.bool pn) (.bool pu) (.slice A6 pv.length c6) (.int .i64 pl) (.int .i64 ph)
              refine bodyPost_ret (results_ct rfl _ _ (w.heap.size + 2) 42 #[.bool false, .bool false, .bool false, .slice none 0 0, .int .i64 0, .int .i64 0] (0, 0) _ rfl (six_put hz7 _ _ _ _ _ _) Tryz.underlying42 rfl (by kernel_rfl)) rfl ?_
              rw [HP.out, hM.out]
              exact ⟨_, rfl, Kd.R_nil _ _ _ _ _, six_below hbw6 (by omega) _ _ _ _ _ _⟩
end Go.Proofs.YtblfbdlhphhfnaaGreatDoor.PA
