import Derived.Test.YtblfbdlhphhfnaaGreatDoorN4
import Derived.Test.YtblfbdlhphhfnaaGreatDoorN5
import Derived.Test.YtblfbdlhphhfnaaGreatDoorN13
import Derived.Test.YtblfbdlhphhfnaaGreatDoorN16
import Derived.Test.YtblfbdlhphhfnaaGreatDoorN22
import Derived.Test.YtblfbdlhphhfnaaGreatDoorN25
import Derived.Test.YtblfbdlhphhfnaaGreatDoorN28
import Derived.Test.YtblfbdlhphhfnaaGreatDoorN30
import Derived.StillTailTactics
namespace Go.Proofs.YtblfbdlhphhfnaaGreatDoor.PA
open Go.RowKit Go.Proofs.YtblfbdlhphhfnaaGreatDoorW.PrintWords Go.Proofs.YtblfbdlhphhfnaaGreatDoorW.PrintLast
set_option linter.unusedVariables false
theorem meet_walk (m1 n1 u1 : Bool) (A1 : Option Addr) (c1 : Nat) (l1 : List ByteArray) (lo1 hi1 : Int) (m2 n2 u2 : Bool) (A2 : Option Addr) (c2 : Nat) (l2 : List ByteArray) (lo2 hi2 : Int) (w : World) (hr1 : Kd.C Kd.string w A1 l1.length l1) (hc1 : l1.length ≤ c1) (hs1 : ∀ s ∈ l1, s.size ≤ 140737488351232) (hr2 : Kd.C Kd.string w A2 l2.length l2) (hc2 : l2.length ≤ c2) (hs2 : ∀ s ∈ l2, s.size ≤ 140737488351232) (hG : GL w) :
    Calls Tryz.prog 22 #[.agg #[.bool m1, .bool n1, .bool u1, .slice A1 l1.length c1, .int .i64 lo1, .int .i64 hi1], .agg #[.bool m2, .bool n2, .bool u2, .slice A2 l2.length c2, .int .i64 lo2, .int .i64 hi2]] w (OfEnd w (meetP ⟨m1, n1, u1, l1, lo1, hi1⟩ ⟨m2, n2, u2, l2, lo2, hi2⟩)) := by
  by_cases h1 : checkP n1 u1 l1 lo1 hi1 = 0
  · by_cases h2 : checkP n2 u2 l2 lo2 hi2 = 0
    · exact meet_ok m1 n1 u1 A1 c1 l1 lo1 hi1 m2 n2 u2 A2 c2 l2 lo2 hi2 w hr1 hc1 hs1 hr2 hc2 hs2 hG h1 h2
    · exact meet_err2 m1 n1 u1 A1 c1 l1 lo1 hi1 m2 n2 u2 A2 c2 l2 lo2 hi2 w hr1 hc1 hs1 hr2 hc2 hs2 hG h1 h2
  · exact meet_err1 m1 n1 u1 A1 c1 l1 lo1 hi1 m2 n2 u2 A2 c2 l2 lo2 hi2 w hr1 hc1 hs1 hr2 hc2 hs2 hG h1
end Go.Proofs.YtblfbdlhphhfnaaGreatDoor.PA
namespace Go.Proofs.YtblfbdlhphhfnaaGreatDoor.PA
open Go.RowKit Go.Maps Go.Sort Go.Shelf Go.Proofs.YtblfbdlhphhfnaaGreatDoorW.PrintWords Go.Proofs.YtblfbdlhphhfnaaGreatDoorW.PrintLast
set_option linter.unusedVariables false
set_option linter.unusedSimpArgs false
/-- A set of a row of sets that lie apart. -/
theorem all_get {f : Nat → Nat} {all : List S42} {W : World} {base : Nat} {ok : Nat → Prop} {A : Option Addr} {n cap : Nat} (h : (Kd.tag f k42).R 42 W base ok (.slice A n cap) all.zipIdx) (hn : all.length = n) (k : Nat) (hk : k < n) :
    ∃ ad A3 c3, A = some ad ∧ k42.M W base (fun q => f q = k) (rd_T42 all k) [.bool (rd_T42 all k).f0, .bool (rd_T42 all k).f1, .bool (rd_T42 all k).f2, .slice A3 (rd_T42 all k).f3.length c3, .int .i64 (rd_T42 all k).f4, .int .i64 (rd_T42 all k).f5] ∧ (rd_T42 all k).f3.length ≤ c3 ∧ Kd.C Kd.string W A3 (rd_T42 all k).f3.length (rd_T42 all k).f3 ∧
      W.cell? (ad.add (k * 6)) = some (.bool (rd_T42 all k).f0) ∧ W.cell? ⟨(ad.add (k * 6)).block, (ad.add (k * 6)).off + 1, none⟩ = some (.bool (rd_T42 all k).f1) ∧ W.cell? ⟨(ad.add (k * 6)).block, (ad.add (k * 6)).off + 2, none⟩ = some (.bool (rd_T42 all k).f2) ∧ W.cell? ⟨(ad.add (k * 6)).block, (ad.add (k * 6)).off + 3, none⟩ = some (.slice A3 (rd_T42 all k).f3.length c3) ∧ W.cell? ⟨(ad.add (k * 6)).block, (ad.add (k * 6)).off + 4, none⟩ = some (.int .i64 (rd_T42 all k).f4) ∧ W.cell? ⟨(ad.add (k * 6)).block, (ad.add (k * 6)).off + 5, none⟩ = some (.int .i64 (rd_T42 all k).f5) := by
  have h2 := h.2
  cases A with
  | none =>
    exfalso
    obtain ⟨inner, ho, hr⟩ := h2
    rcases ho.2 with ⟨hv, hz⟩ | ⟨g, cap', cur, hv, _⟩
    · rw [List.length_zipIdx] at hz; omega
    · cases hv
  | some ad =>
    obtain ⟨c, hcl, hM, hcell⟩ := Kd.R_getA h (z42, 0) (k : Int) (by omega) (by omega)
    have hz : (all.zipIdx).getD (k : Int).toNat (z42, 0) = (rd_T42 all k, k) := by
      have hk2 : k < all.length := by omega
      rw [Int.toNat_natCast, List.getD_eq_getElem?_getD, Kd.zip_at (List.getElem?_eq_getElem hk2)]
      unfold rd_T42
      rw [Int.toNat_natCast, List.getD_eq_getElem?_getD, List.getElem?_eq_getElem hk2]; rfl
    rw [hz] at hM
    have hM2 : k42.M W base (fun q => f q = k) (rd_T42 all k) c := k42.M_mono (fun q hq => hq.2) hM
    generalize rd_T42 all k = x at hM2 ⊢
    obtain ⟨A3, c3, rfl, l3, g3⟩ := k42_open (k42.K_of_M hM2)
    have hc0 : ∀ j u, ([Value.bool x.f0, .bool x.f1, .bool x.f2, .slice A3 x.f3.length c3, .int .i64 x.f4, .int .i64 x.f5] : List Value)[j]? = some u → W.cell? (ad.add (k * 6 + j)) = some u := by
      intro j u hu
      have := hcell j u hu
      rw [Int.toNat_natCast] at this
      exact this
    exact ⟨ad, A3, c3, rfl, hM2, l3, g3, hc0 0 _ rfl, by rw [← add_field _ _ 1 (by omega)]; exact hc0 1 _ rfl, by rw [← add_field _ _ 2 (by omega)]; exact hc0 2 _ rfl, by rw [← add_field _ _ 3 (by omega)]; exact hc0 3 _ rfl, by rw [← add_field _ _ 4 (by omega)]; exact hc0 4 _ rfl, by rw [← add_field _ _ 5 (by omega)]; exact hc0 5 _ rfl⟩
theorem mem_rd {all : List S42} {k : Nat} {s : S42} (hlt : k < all.length) (es : s = rd_T42 all k) : s ∈ all := by
  rw [es]
  simp only [rd_T42, Int.toNat_natCast, List.getD_eq_getElem?_getD, List.getElem?_eq_getElem hlt, Option.getD_some]
  exact List.getElem_mem hlt
end Go.Proofs.YtblfbdlhphhfnaaGreatDoor.PA
namespace Go.Proofs.YtblfbdlhphhfnaaGreatDoor.PA
open Go.RowKit Go.Proofs.YtblfbdlhphhfnaaGreatDoorW.PrintWords Go.Proofs.YtblfbdlhphhfnaaGreatDoorW.PrintLast Go.Proofs.YtblfbdlhphhfnaaGreatDoorW.PrintMore
set_option linter.unusedVariables false
set_option linter.unusedSimpArgs false
def valset_Has.f (k : Nat) (a0_0 : Bool) (a0_1 : Bool) (a0_2 : Bool) (l0_3 : List ByteArray) (a0_4 : Int) (a0_5 : Int) (a1 : ByteArray) : Option (Bool) := (valset_Check.f a0_0 a0_1 a0_2 l0_3 a0_4 a0_5).bind fun t412 => (if t412 = 0 then ((valset_Value.f a1).bind fun t413 => (if t413 = true then ((valset_has.f k a0_0 a0_1 a0_2 l0_3 a0_4 a0_5 a1).bind fun t414 => (some t414)) else (some false))) else (some false))
set_option maxHeartbeats 8000000 in
set_option maxRecDepth 100000 in
theorem valset_Has.calls (k : Nat) (a0_0 : Bool) (a0_1 : Bool) (a0_2 : Bool) (A0_3 : Option Addr) (c0_3 : Nat) (l0_3 : List ByteArray) (a0_4 : Int) (a0_5 : Int) (a1 : ByteArray) (r : Bool) (w : World) (hr0_3 : Kd.C Kd.string w A0_3 l0_3.length l0_3) (hc0_3 : l0_3.length ≤ c0_3) (hG : GL w) (h : valset_Has.f k a0_0 a0_1 a0_2 l0_3 a0_4 a0_5 a1 = some r) :
    Calls Tryz.prog 28 #[.agg #[.bool a0_0, .bool a0_1, .bool a0_2, .slice A0_3 l0_3.length c0_3, .int .i64 a0_4, .int .i64 a0_5], .string a1] w fun e w' => e = .returned (.bool r) ∧ Below w.heap.size w w' := by
  have hu42 := Tryz.underlying42
  have HR0_3 := Aside0.mk hr0_3
  have HC0_3 := Aside0.mk hc0_3
  clear hr0_3 hc0_3
  have HB := Aside0.mk (Below.refl w.heap.size w)
  have H : ((valset_Check.f a0_0 a0_1 a0_2 l0_3 a0_4 a0_5).bind fun t412 => (if t412 = 0 then ((valset_Value.f a1).bind fun t413 => (if t413 = true then ((valset_has.f k a0_0 a0_1 a0_2 l0_3 a0_4 a0_5 a1).bind fun t414 => (some t414)) else (some false))) else (some false))) = some r := h
  clear h
  replace H := Option.bind_eq_some_iff.mp H
  obtain ⟨t412, A30, H⟩ := H
  replace H : (if t412 = 0 then ((valset_Value.f a1).bind fun t413 => (if t413 = true then ((valset_has.f k a0_0 a0_1 a0_2 l0_3 a0_4 a0_5 a1).bind fun t414 => (some t414)) else (some false))) else (some false)) = some r := H
  have A3 := Aside0.mk A30
  clear A30
  by_cases c4 : t412 = 0
  · rw [if_pos c4] at H
    have c4b0 : (t412 == 0) = true := beq_iff_eq.mpr c4
    have c4b1 : (t412 != 0) = false := bne_eq_false_iff_eq.mpr c4
    clear c4
    replace H := Option.bind_eq_some_iff.mp H
    obtain ⟨t413, A50, H⟩ := H
    replace H : (if t413 = true then ((valset_has.f k a0_0 a0_1 a0_2 l0_3 a0_4 a0_5 a1).bind fun t414 => (some t414)) else (some false)) = some r := H
    have A5 := Aside0.mk A50
    clear A50
    by_cases c6 : t413 = true
    · subst c6
      have H1 : ((valset_has.f k a0_0 a0_1 a0_2 l0_3 a0_4 a0_5 a1).bind fun t414 => (some t414)) = some r := by rw [if_pos rfl] at H; exact H
      clear H
      have H := H1
      clear H1
      replace H := Option.bind_eq_some_iff.mp H
      obtain ⟨t414, A70, H⟩ := H
      replace H : (some t414) = some r := H
      have A7 := Aside0.mk A70
      clear A70
      obtain rfl := Option.some.inj H
      go_enter Tryz.func28, Tryz.ntmps28
      go_wp2_with (first | ((with_reducible refine gate_dst (N := 2) rfl ?_); refine box_event ?hg (N := 2) ?hd (cs := #[.bool a0_0, .bool a0_1, .bool a0_2, .slice A0_3 l0_3.length c0_3, .int .i64 a0_4, .int .i64 a0_5]) (t := 42) ?hr ?_; (case hd => rfl); (case hg => rfl); (case hr => first | (go_simp; done) | (go_simp; rfl)); intro gb411 hg w8 hbox hb; have n0_ := Aside0.mk (below_step (by repeat (first | (with_reducible first | exact HB.out | apply below_alloc | apply pw_below_drewN | apply below_drew1) | exact HB.out)) hb); have n1_ := Aside0.mk (hbox); have n2_ := Aside0.mk ((by rw [hg]; exact (below_size (by repeat (first | (with_reducible first | exact HB.out | apply below_alloc | apply pw_below_drewN | apply below_drew1) | exact HB.out))) : w.heap.size ≤ gb411)); have n3_ := Aside0.mk ((by rw [hg]; exact (below_size (by repeat (first | (with_reducible first | exact HB.out | apply below_alloc | apply pw_below_drewN | apply below_drew1) | exact HB.out))) : w.heap.size ≤ gb411)); clear HB; have HB := n0_; have BK411 := n1_; have GW411 := n2_; have GE411 := n3_; clear n0_ n1_ n2_ n3_; clear hb hbox hg; have hcz9_0 : w8.cell? ⟨gb411, 0, none⟩ = some (.bool a0_0) := (blk_cell BK411.out 0).trans rfl; have hcz9_1 : w8.cell? ⟨gb411, 1, none⟩ = some (.bool a0_1) := (blk_cell BK411.out 1).trans rfl; have hcz9_2 : w8.cell? ⟨gb411, 2, none⟩ = some (.bool a0_2) := (blk_cell BK411.out 2).trans rfl; have hcz9_3 : w8.cell? ⟨gb411, 3, none⟩ = some (.slice A0_3 l0_3.length c0_3) := (blk_cell BK411.out 3).trans rfl; have hcz9_4 : w8.cell? ⟨gb411, 4, none⟩ = some (.int .i64 a0_4) := (blk_cell BK411.out 4).trans rfl; have hcz9_5 : w8.cell? ⟨gb411, 5, none⟩ = some (.int .i64 a0_5) := (blk_cell BK411.out 5).trans rfl; have hfz9_0 := blk_frozen BK411.out 0; have hfz9_1 := blk_frozen BK411.out 1; have hfz9_2 := blk_frozen BK411.out 2; have hfz9_3 := blk_frozen BK411.out 3; have hfz9_4 := blk_frozen BK411.out 4; have hfz9_5 := blk_frozen BK411.out 5) | ((with_reducible refine gate_callee (f := 41) rfl ?_); refine goesL_ (some 6) rfl rfl Tryz.func41 (by kernel_rfl) rfl #[.agg #[.bool a0_0, .bool a0_1, .bool a0_2, .slice A0_3 l0_3.length c0_3, .int .i64 a0_4, .int .i64 a0_5]] rfl (by (try simp only [List.map_toArray, List.map_cons, List.map_nil]); first | done | rfl | (simp only [List.length_drop, List.length_take]; rfl)) ?_; (with_reducible refine (valset_Check.calls a0_0 a0_1 a0_2 _ _ l0_3 a0_4 a0_5 t412 _ ?side1 ?side2 ?side3 A3.out).mono ?_); (case side1 => repeat (first | exact (Kd.C_below HR0_3.out HB.out) | (with_reducible refine Kd.C_alloc ?_ _) | (with_reducible refine Kd.C_drewN ?_ _) | (with_reducible refine Kd.C_drew ?_))); (case side2 => exact HC0_3.out); (case side3 => exact GL.of_below hG (by repeat (first | (with_reducible first | exact HB.out | apply below_alloc | apply pw_below_drewN | apply below_drew1 | refine below_set ?_ GE411.out) | exact HB.out))); rintro e w10 ⟨rfl, hb⟩; refine ⟨_, rfl, ?_⟩; have n0_ := Aside0.mk (blk_below (g := gb411) (o := .cells #[.bool a0_0, .bool a0_1, .bool a0_2, .slice A0_3 l0_3.length c0_3, .int .i64 a0_4, .int .i64 a0_5] 42 (0, 0)) (by (with_reducible repeat (first | refine blk_drewN ?_ _ | refine blk_drew ?_ | refine blk_alloc ?_ _)); exact BK411.out) hb); have n1_ := Aside0.mk (below_step (by repeat (first | (with_reducible first | exact HB.out | apply below_alloc | apply pw_below_drewN | apply below_drew1 | refine below_set ?_ GE411.out) | exact HB.out)) hb); clear BK411; clear HB; have BK411 := n0_; have HB := n1_; clear n0_ n1_; (try clear hb); (try clear hb2); (try clear hk); (try clear hi)) | (go_at_call 27; (with_reducible refine (valset_Value.calls a1 true _ ?side1 A5.out).mono ?_); (case side1 => exact GL.of_below hG (by repeat (first | (with_reducible first | exact HB.out | apply below_alloc | apply pw_below_drewN | apply below_drew1 | refine below_set ?_ GE411.out) | exact HB.out))); rintro e w11 ⟨rfl, hb⟩; have n0_ := Aside0.mk (blk_below (g := gb411) (o := .cells #[.bool a0_0, .bool a0_1, .bool a0_2, .slice A0_3 l0_3.length c0_3, .int .i64 a0_4, .int .i64 a0_5] 42 (0, 0)) (by (with_reducible repeat (first | refine blk_drewN ?_ _ | refine blk_drew ?_ | refine blk_alloc ?_ _)); exact BK411.out) hb); have n1_ := Aside0.mk (below_step (by repeat (first | (with_reducible first | exact HB.out | apply below_alloc | apply pw_below_drewN | apply below_drew1 | refine below_set ?_ GE411.out) | exact HB.out)) hb); clear BK411; clear HB; have BK411 := n0_; have HB := n1_; clear n0_ n1_; (try clear hb); (try clear hb2); (try clear hk); (try clear hi); have hcz12_0 : w11.cell? ⟨gb411, 0, none⟩ = some (.bool a0_0) := (blk_cell BK411.out 0).trans rfl; have hcz12_1 : w11.cell? ⟨gb411, 1, none⟩ = some (.bool a0_1) := (blk_cell BK411.out 1).trans rfl; have hcz12_2 : w11.cell? ⟨gb411, 2, none⟩ = some (.bool a0_2) := (blk_cell BK411.out 2).trans rfl; have hcz12_3 : w11.cell? ⟨gb411, 3, none⟩ = some (.slice A0_3 l0_3.length c0_3) := (blk_cell BK411.out 3).trans rfl; have hcz12_4 : w11.cell? ⟨gb411, 4, none⟩ = some (.int .i64 a0_4) := (blk_cell BK411.out 4).trans rfl; have hcz12_5 : w11.cell? ⟨gb411, 5, none⟩ = some (.int .i64 a0_5) := (blk_cell BK411.out 5).trans rfl; have hfz12_0 := blk_frozen BK411.out 0; have hfz12_1 := blk_frozen BK411.out 1; have hfz12_2 := blk_frozen BK411.out 2; have hfz12_3 := blk_frozen BK411.out 3; have hfz12_4 := blk_frozen BK411.out 4; have hfz12_5 := blk_frozen BK411.out 5) | (go_at_call 43; (with_reducible refine (valset_has.calls k a0_0 a0_1 a0_2 _ _ l0_3 a0_4 a0_5 a1 t414 _ ?side1 ?side2 ?side3 A7.out).mono ?_); (case side1 => repeat (first | exact (Kd.C_below HR0_3.out HB.out) | (with_reducible refine Kd.C_alloc ?_ _) | (with_reducible refine Kd.C_drewN ?_ _) | (with_reducible refine Kd.C_drew ?_))); (case side2 => exact HC0_3.out); (case side3 => exact GL.of_below hG (by repeat (first | (with_reducible first | exact HB.out | apply below_alloc | apply pw_below_drewN | apply below_drew1 | refine below_set ?_ GE411.out) | exact HB.out))); rintro e w13 ⟨rfl, hb⟩; have n0_ := Aside0.mk (blk_below (g := gb411) (o := .cells #[.bool a0_0, .bool a0_1, .bool a0_2, .slice A0_3 l0_3.length c0_3, .int .i64 a0_4, .int .i64 a0_5] 42 (0, 0)) (by (with_reducible repeat (first | refine blk_drewN ?_ _ | refine blk_drew ?_ | refine blk_alloc ?_ _)); exact BK411.out) hb); have n1_ := Aside0.mk (below_step (by repeat (first | (with_reducible first | exact HB.out | apply below_alloc | apply pw_below_drewN | apply below_drew1 | refine below_set ?_ GE411.out) | exact HB.out)) hb); clear BK411; clear HB; have BK411 := n0_; have HB := n1_; clear n0_ n1_; (try clear hb); (try clear hb2); (try clear hk); (try clear hi)))
      go_ret
      exact ⟨by first | rfl | (simp [errW_none, errW_some] <;> rfl) | (simp [*, errW_none, errW_some] <;> rfl), by repeat (first | (with_reducible first | exact HB.out | apply below_alloc | apply pw_below_drewN | apply below_drew1 | refine below_set ?_ GE411.out) | exact HB.out)⟩
    · replace c6 := Bool.eq_false_iff.mpr c6
      subst c6
      have H1 : (some false) = some r := by rw [if_neg (show ¬ (false = true) by decide)] at H; exact H
      clear H
      have H := H1
      clear H1
      obtain rfl := Option.some.inj H
      go_enter Tryz.func28, Tryz.ntmps28
      go_wp2_with (first | ((with_reducible refine gate_dst (N := 2) rfl ?_); refine box_event ?hg (N := 2) ?hd (cs := #[.bool a0_0, .bool a0_1, .bool a0_2, .slice A0_3 l0_3.length c0_3, .int .i64 a0_4, .int .i64 a0_5]) (t := 42) ?hr ?_; (case hd => rfl); (case hg => rfl); (case hr => first | (go_simp; done) | (go_simp; rfl)); intro gb411 hg w14 hbox hb; have n0_ := Aside0.mk (below_step (by repeat (first | (with_reducible first | exact HB.out | apply below_alloc | apply pw_below_drewN | apply below_drew1) | exact HB.out)) hb); have n1_ := Aside0.mk (hbox); have n2_ := Aside0.mk ((by rw [hg]; exact (below_size (by repeat (first | (with_reducible first | exact HB.out | apply below_alloc | apply pw_below_drewN | apply below_drew1) | exact HB.out))) : w.heap.size ≤ gb411)); have n3_ := Aside0.mk ((by rw [hg]; exact (below_size (by repeat (first | (with_reducible first | exact HB.out | apply below_alloc | apply pw_below_drewN | apply below_drew1) | exact HB.out))) : w.heap.size ≤ gb411)); clear HB; have HB := n0_; have BK411 := n1_; have GW411 := n2_; have GE411 := n3_; clear n0_ n1_ n2_ n3_; clear hb hbox hg; have hcz15_0 : w14.cell? ⟨gb411, 0, none⟩ = some (.bool a0_0) := (blk_cell BK411.out 0).trans rfl; have hcz15_1 : w14.cell? ⟨gb411, 1, none⟩ = some (.bool a0_1) := (blk_cell BK411.out 1).trans rfl; have hcz15_2 : w14.cell? ⟨gb411, 2, none⟩ = some (.bool a0_2) := (blk_cell BK411.out 2).trans rfl; have hcz15_3 : w14.cell? ⟨gb411, 3, none⟩ = some (.slice A0_3 l0_3.length c0_3) := (blk_cell BK411.out 3).trans rfl; have hcz15_4 : w14.cell? ⟨gb411, 4, none⟩ = some (.int .i64 a0_4) := (blk_cell BK411.out 4).trans rfl; have hcz15_5 : w14.cell? ⟨gb411, 5, none⟩ = some (.int .i64 a0_5) := (blk_cell BK411.out 5).trans rfl; have hfz15_0 := blk_frozen BK411.out 0; have hfz15_1 := blk_frozen BK411.out 1; have hfz15_2 := blk_frozen BK411.out 2; have hfz15_3 := blk_frozen BK411.out 3; have hfz15_4 := blk_frozen BK411.out 4; have hfz15_5 := blk_frozen BK411.out 5) | ((with_reducible refine gate_callee (f := 41) rfl ?_); refine goesL_ (some 6) rfl rfl Tryz.func41 (by kernel_rfl) rfl #[.agg #[.bool a0_0, .bool a0_1, .bool a0_2, .slice A0_3 l0_3.length c0_3, .int .i64 a0_4, .int .i64 a0_5]] rfl (by (try simp only [List.map_toArray, List.map_cons, List.map_nil]); first | done | rfl | (simp only [List.length_drop, List.length_take]; rfl)) ?_; (with_reducible refine (valset_Check.calls a0_0 a0_1 a0_2 _ _ l0_3 a0_4 a0_5 t412 _ ?side1 ?side2 ?side3 A3.out).mono ?_); (case side1 => repeat (first | exact (Kd.C_below HR0_3.out HB.out) | (with_reducible refine Kd.C_alloc ?_ _) | (with_reducible refine Kd.C_drewN ?_ _) | (with_reducible refine Kd.C_drew ?_))); (case side2 => exact HC0_3.out); (case side3 => exact GL.of_below hG (by repeat (first | (with_reducible first | exact HB.out | apply below_alloc | apply pw_below_drewN | apply below_drew1 | refine below_set ?_ GE411.out) | exact HB.out))); rintro e w16 ⟨rfl, hb⟩; refine ⟨_, rfl, ?_⟩; have n0_ := Aside0.mk (blk_below (g := gb411) (o := .cells #[.bool a0_0, .bool a0_1, .bool a0_2, .slice A0_3 l0_3.length c0_3, .int .i64 a0_4, .int .i64 a0_5] 42 (0, 0)) (by (with_reducible repeat (first | refine blk_drewN ?_ _ | refine blk_drew ?_ | refine blk_alloc ?_ _)); exact BK411.out) hb); have n1_ := Aside0.mk (below_step (by repeat (first | (with_reducible first | exact HB.out | apply below_alloc | apply pw_below_drewN | apply below_drew1 | refine below_set ?_ GE411.out) | exact HB.out)) hb); clear BK411; clear HB; have BK411 := n0_; have HB := n1_; clear n0_ n1_; (try clear hb); (try clear hb2); (try clear hk); (try clear hi)) | (go_at_call 27; (with_reducible refine (valset_Value.calls a1 false _ ?side1 A5.out).mono ?_); (case side1 => exact GL.of_below hG (by repeat (first | (with_reducible first | exact HB.out | apply below_alloc | apply pw_below_drewN | apply below_drew1 | refine below_set ?_ GE411.out) | exact HB.out))); rintro e w17 ⟨rfl, hb⟩; have n0_ := Aside0.mk (blk_below (g := gb411) (o := .cells #[.bool a0_0, .bool a0_1, .bool a0_2, .slice A0_3 l0_3.length c0_3, .int .i64 a0_4, .int .i64 a0_5] 42 (0, 0)) (by (with_reducible repeat (first | refine blk_drewN ?_ _ | refine blk_drew ?_ | refine blk_alloc ?_ _)); exact BK411.out) hb); have n1_ := Aside0.mk (below_step (by repeat (first | (with_reducible first | exact HB.out | apply below_alloc | apply pw_below_drewN | apply below_drew1 | refine below_set ?_ GE411.out) | exact HB.out)) hb); clear BK411; clear HB; have BK411 := n0_; have HB := n1_; clear n0_ n1_; (try clear hb); (try clear hb2); (try clear hk); (try clear hi)))
      go_ret
      exact ⟨by first | rfl | (simp [errW_none, errW_some] <;> rfl) | (simp [*, errW_none, errW_some] <;> rfl), by repeat (first | (with_reducible first | exact HB.out | apply below_alloc | apply pw_below_drewN | apply below_drew1 | refine below_set ?_ GE411.out) | exact HB.out)⟩
  · rw [if_neg c4] at H
    have c4b0 : (t412 == 0) = false := beq_eq_false_iff_ne.mpr c4
    have c4b1 : (t412 != 0) = true := bne_iff_ne.mpr c4
    obtain rfl := Option.some.inj H
    go_enter Tryz.func28, Tryz.ntmps28
    go_wp2_with (first | ((with_reducible refine gate_dst (N := 2) rfl ?_); refine box_event ?hg (N := 2) ?hd (cs := #[.bool a0_0, .bool a0_1, .bool a0_2, .slice A0_3 l0_3.length c0_3, .int .i64 a0_4, .int .i64 a0_5]) (t := 42) ?hr ?_; (case hd => rfl); (case hg => rfl); (case hr => first | (go_simp; done) | (go_simp; rfl)); intro gb411 hg w18 hbox hb; have n0_ := Aside0.mk (below_step (by repeat (first | (with_reducible first | exact HB.out | apply below_alloc | apply pw_below_drewN | apply below_drew1) | exact HB.out)) hb); have n1_ := Aside0.mk (hbox); have n2_ := Aside0.mk ((by rw [hg]; exact (below_size (by repeat (first | (with_reducible first | exact HB.out | apply below_alloc | apply pw_below_drewN | apply below_drew1) | exact HB.out))) : w.heap.size ≤ gb411)); have n3_ := Aside0.mk ((by rw [hg]; exact (below_size (by repeat (first | (with_reducible first | exact HB.out | apply below_alloc | apply pw_below_drewN | apply below_drew1) | exact HB.out))) : w.heap.size ≤ gb411)); clear HB; have HB := n0_; have BK411 := n1_; have GW411 := n2_; have GE411 := n3_; clear n0_ n1_ n2_ n3_; clear hb hbox hg; have hcz19_0 : w18.cell? ⟨gb411, 0, none⟩ = some (.bool a0_0) := (blk_cell BK411.out 0).trans rfl; have hcz19_1 : w18.cell? ⟨gb411, 1, none⟩ = some (.bool a0_1) := (blk_cell BK411.out 1).trans rfl; have hcz19_2 : w18.cell? ⟨gb411, 2, none⟩ = some (.bool a0_2) := (blk_cell BK411.out 2).trans rfl; have hcz19_3 : w18.cell? ⟨gb411, 3, none⟩ = some (.slice A0_3 l0_3.length c0_3) := (blk_cell BK411.out 3).trans rfl; have hcz19_4 : w18.cell? ⟨gb411, 4, none⟩ = some (.int .i64 a0_4) := (blk_cell BK411.out 4).trans rfl; have hcz19_5 : w18.cell? ⟨gb411, 5, none⟩ = some (.int .i64 a0_5) := (blk_cell BK411.out 5).trans rfl; have hfz19_0 := blk_frozen BK411.out 0; have hfz19_1 := blk_frozen BK411.out 1; have hfz19_2 := blk_frozen BK411.out 2; have hfz19_3 := blk_frozen BK411.out 3; have hfz19_4 := blk_frozen BK411.out 4; have hfz19_5 := blk_frozen BK411.out 5) | ((with_reducible refine gate_callee (f := 41) rfl ?_); refine goesL_ (some 6) rfl rfl Tryz.func41 (by kernel_rfl) rfl #[.agg #[.bool a0_0, .bool a0_1, .bool a0_2, .slice A0_3 l0_3.length c0_3, .int .i64 a0_4, .int .i64 a0_5]] rfl (by (try simp only [List.map_toArray, List.map_cons, List.map_nil]); first | done | rfl | (simp only [List.length_drop, List.length_take]; rfl)) ?_; (with_reducible refine (valset_Check.calls a0_0 a0_1 a0_2 _ _ l0_3 a0_4 a0_5 t412 _ ?side1 ?side2 ?side3 A3.out).mono ?_); (case side1 => repeat (first | exact (Kd.C_below HR0_3.out HB.out) | (with_reducible refine Kd.C_alloc ?_ _) | (with_reducible refine Kd.C_drewN ?_ _) | (with_reducible refine Kd.C_drew ?_))); (case side2 => exact HC0_3.out); (case side3 => exact GL.of_below hG (by repeat (first | (with_reducible first | exact HB.out | apply below_alloc | apply pw_below_drewN | apply below_drew1 | refine below_set ?_ GE411.out) | exact HB.out))); rintro e w20 ⟨rfl, hb⟩; refine ⟨_, rfl, ?_⟩; have n0_ := Aside0.mk (blk_below (g := gb411) (o := .cells #[.bool a0_0, .bool a0_1, .bool a0_2, .slice A0_3 l0_3.length c0_3, .int .i64 a0_4, .int .i64 a0_5] 42 (0, 0)) (by (with_reducible repeat (first | refine blk_drewN ?_ _ | refine blk_drew ?_ | refine blk_alloc ?_ _)); exact BK411.out) hb); have n1_ := Aside0.mk (below_step (by repeat (first | (with_reducible first | exact HB.out | apply below_alloc | apply pw_below_drewN | apply below_drew1 | refine below_set ?_ GE411.out) | exact HB.out)) hb); clear BK411; clear HB; have BK411 := n0_; have HB := n1_; clear n0_ n1_; (try clear hb); (try clear hb2); (try clear hk); (try clear hi)))
    go_ret
    exact ⟨by first | rfl | (simp [errW_none, errW_some] <;> rfl) | (simp [*, errW_none, errW_some] <;> rfl), by repeat (first | (with_reducible first | exact HB.out | apply below_alloc | apply pw_below_drewN | apply below_drew1 | refine below_set ?_ GE411.out) | exact HB.out)⟩
end Go.Proofs.YtblfbdlhphhfnaaGreatDoor.PA
