import Derived.Test.YtblfbdlhphhfnaaGreatDoorN4
import Derived.Test.YtblfbdlhphhfnaaGreatDoorN5
import Derived.Test.YtblfbdlhphhfnaaGreatDoorN16
import Derived.Test.YtblfbdlhphhfnaaGreatDoorN29
import Derived.Test.YtblfbdlhphhfnaaGreatDoorN31
namespace Go.Proofs.YtblfbdlhphhfnaaGreatDoor.PA
open Go.RowKit Go.Proofs.YtblfbdlhphhfnaaGreatDoorW.PrintWords Go.Proofs.YtblfbdlhphhfnaaGreatDoorW.PrintLast Go.Proofs.YtblfbdlhphhfnaaGreatDoorW.PrintMore
set_option linter.unusedVariables false
set_option linter.unusedSimpArgs false
def valset_Empty.f (a0_0 : Bool) (a0_1 : Bool) (a0_2 : Bool) (l0_3 : List ByteArray) (a0_4 : Int) (a0_5 : Int) : Option (Bool) := (valset_Check.f a0_0 a0_1 a0_2 l0_3 a0_4 a0_5).bind fun t416 => (if t416 = 0 then (if a0_1 = true then (some false) else (if a0_0 = true then (some false) else (some ((l0_3.length : Int) == 0)))) else (some false))
set_option maxHeartbeats 8000000 in
set_option maxRecDepth 100000 in
theorem valset_Empty.calls (a0_0 : Bool) (a0_1 : Bool) (a0_2 : Bool) (A0_3 : Option Addr) (c0_3 : Nat) (l0_3 : List ByteArray) (a0_4 : Int) (a0_5 : Int) (r : Bool) (w : World) (hr0_3 : Kd.C Kd.string w A0_3 l0_3.length l0_3) (hc0_3 : l0_3.length ≤ c0_3) (hG : GL w) (h : valset_Empty.f a0_0 a0_1 a0_2 l0_3 a0_4 a0_5 = some r) :
    Calls Tryz.prog 36 #[.agg #[.bool a0_0, .bool a0_1, .bool a0_2, .slice A0_3 l0_3.length c0_3, .int .i64 a0_4, .int .i64 a0_5]] w fun e w' => e = .returned (.bool r) ∧ Below w.heap.size w w' := by
  have hu42 := Tryz.underlying42
  have HR0_3 := Aside0.mk hr0_3
  have HC0_3 := Aside0.mk hc0_3
  clear hr0_3 hc0_3
  have HB := Aside0.mk (Below.refl w.heap.size w)
  have H : ((valset_Check.f a0_0 a0_1 a0_2 l0_3 a0_4 a0_5).bind fun t416 => (if t416 = 0 then (if a0_1 = true then (some false) else (if a0_0 = true then (some false) else (some ((l0_3.length : Int) == 0)))) else (some false))) = some r := h
  clear h
  replace H := Option.bind_eq_some_iff.mp H
  obtain ⟨t416, A20, H⟩ := H
  replace H : (if t416 = 0 then (if a0_1 = true then (some false) else (if a0_0 = true then (some false) else (some ((l0_3.length : Int) == 0)))) else (some false)) = some r := H
  have A2 := Aside0.mk A20
  clear A20
  by_cases c3 : t416 = 0
  · rw [if_pos c3] at H
    have c3b0 : (t416 == 0) = true := beq_iff_eq.mpr c3
    have c3b1 : (t416 != 0) = false := bne_eq_false_iff_eq.mpr c3
    clear c3
    by_cases c4 : a0_1 = true
    · subst c4
      have H1 : (some false) = some r := by rw [if_pos rfl] at H; exact H
      clear H
      have H := H1
      clear H1
      obtain rfl := Option.some.inj H
      go_enter Tryz.func36, Tryz.ntmps36
      go_wp2_with (first | ((with_reducible refine gate_dst (N := 1) rfl ?_); (try (refine gate_guard (by rfl) ?_; dsimp only)); refine box_event ?hg (N := 1) ?hd (cs := #[.bool a0_0, .bool true, .bool a0_2, .slice A0_3 l0_3.length c0_3, .int .i64 a0_4, .int .i64 a0_5]) (t := 42) ?hr ?_; (case hd => rfl); (case hg => rfl); (case hr => first | (go_simp; done) | (go_simp; rfl)); intro gb415 hg w5 hbox hb; have n0_ := Aside0.mk (below_step (by repeat (first | (with_reducible first | exact HB.out | apply below_alloc | apply pw_below_drewN | apply below_drew1) | exact HB.out)) hb); have n1_ := Aside0.mk (hbox); have n2_ := Aside0.mk ((by rw [hg]; exact (below_size (by repeat (first | (with_reducible first | exact HB.out | apply below_alloc | apply pw_below_drewN | apply below_drew1) | exact HB.out))) : w.heap.size ≤ gb415)); have n3_ := Aside0.mk ((by rw [hg]; exact (below_size (by repeat (first | (with_reducible first | exact HB.out | apply below_alloc | apply pw_below_drewN | apply below_drew1) | exact HB.out))) : w.heap.size ≤ gb415)); clear HB; have HB := n0_; have BK415 := n1_; have GW415 := n2_; have GE415 := n3_; clear n0_ n1_ n2_ n3_; clear hb hbox hg; have hcz6_0 : w5.cell? ⟨gb415, 0, none⟩ = some (.bool a0_0) := (blk_cell BK415.out 0).trans rfl; have hcz6_1 : w5.cell? ⟨gb415, 1, none⟩ = some (.bool true) := (blk_cell BK415.out 1).trans rfl; have hcz6_2 : w5.cell? ⟨gb415, 2, none⟩ = some (.bool a0_2) := (blk_cell BK415.out 2).trans rfl; have hcz6_3 : w5.cell? ⟨gb415, 3, none⟩ = some (.slice A0_3 l0_3.length c0_3) := (blk_cell BK415.out 3).trans rfl; have hcz6_4 : w5.cell? ⟨gb415, 4, none⟩ = some (.int .i64 a0_4) := (blk_cell BK415.out 4).trans rfl; have hcz6_5 : w5.cell? ⟨gb415, 5, none⟩ = some (.int .i64 a0_5) := (blk_cell BK415.out 5).trans rfl; have hfz6_0 := blk_frozen BK415.out 0; have hfz6_1 := blk_frozen BK415.out 1; have hfz6_2 := blk_frozen BK415.out 2; have hfz6_3 := blk_frozen BK415.out 3; have hfz6_4 := blk_frozen BK415.out 4; have hfz6_5 := blk_frozen BK415.out 5) | ((with_reducible refine gate_callee (f := 41) rfl ?_); refine goesL_ (some 4) rfl rfl Tryz.func41 (by kernel_rfl) rfl #[.agg #[.bool a0_0, .bool true, .bool a0_2, .slice A0_3 l0_3.length c0_3, .int .i64 a0_4, .int .i64 a0_5]] rfl (by (try simp only [List.map_toArray, List.map_cons, List.map_nil]); first | done | rfl | (simp only [List.length_drop, List.length_take]; rfl)) ?_; (with_reducible refine (valset_Check.calls a0_0 true a0_2 _ _ l0_3 a0_4 a0_5 t416 _ ?side1 ?side2 ?side3 A2.out).mono ?_); (case side1 => repeat (first | exact (Kd.C_below HR0_3.out HB.out) | (with_reducible refine Kd.C_alloc ?_ _) | (with_reducible refine Kd.C_drewN ?_ _) | (with_reducible refine Kd.C_drew ?_))); (case side2 => exact HC0_3.out); (case side3 => exact GL.of_below hG (by repeat (first | (with_reducible first | exact HB.out | apply below_alloc | apply pw_below_drewN | apply below_drew1 | refine below_set ?_ GE415.out) | exact HB.out))); rintro e w7 ⟨rfl, hb⟩; refine ⟨_, rfl, ?_⟩; have n0_ := Aside0.mk (blk_below (g := gb415) (o := .cells #[.bool a0_0, .bool true, .bool a0_2, .slice A0_3 l0_3.length c0_3, .int .i64 a0_4, .int .i64 a0_5] 42 (0, 0)) (by (with_reducible repeat (first | refine blk_drewN ?_ _ | refine blk_drew ?_ | refine blk_alloc ?_ _)); exact BK415.out) hb); have n1_ := Aside0.mk (below_step (by repeat (first | (with_reducible first | exact HB.out | apply below_alloc | apply pw_below_drewN | apply below_drew1 | refine below_set ?_ GE415.out) | exact HB.out)) hb); clear BK415; clear HB; have BK415 := n0_; have HB := n1_; clear n0_ n1_; (try clear hb); (try clear hb2); (try clear hk); (try clear hi); have hcz8_0 : w7.cell? ⟨gb415, 0, none⟩ = some (.bool a0_0) := (blk_cell BK415.out 0).trans rfl; have hcz8_1 : w7.cell? ⟨gb415, 1, none⟩ = some (.bool true) := (blk_cell BK415.out 1).trans rfl; have hcz8_2 : w7.cell? ⟨gb415, 2, none⟩ = some (.bool a0_2) := (blk_cell BK415.out 2).trans rfl; have hcz8_3 : w7.cell? ⟨gb415, 3, none⟩ = some (.slice A0_3 l0_3.length c0_3) := (blk_cell BK415.out 3).trans rfl; have hcz8_4 : w7.cell? ⟨gb415, 4, none⟩ = some (.int .i64 a0_4) := (blk_cell BK415.out 4).trans rfl; have hcz8_5 : w7.cell? ⟨gb415, 5, none⟩ = some (.int .i64 a0_5) := (blk_cell BK415.out 5).trans rfl; have hfz8_0 := blk_frozen BK415.out 0; have hfz8_1 := blk_frozen BK415.out 1; have hfz8_2 := blk_frozen BK415.out 2; have hfz8_3 := blk_frozen BK415.out 3; have hfz8_4 := blk_frozen BK415.out 4; have hfz8_5 := blk_frozen BK415.out 5))
      go_ret
      exact ⟨by first | rfl | (simp [errW_none, errW_some] <;> rfl) | (simp [*, errW_none, errW_some] <;> rfl), by repeat (first | (with_reducible first | exact HB.out | apply below_alloc | apply pw_below_drewN | apply below_drew1 | refine below_set ?_ GE415.out) | exact HB.out)⟩
    · replace c4 := Bool.eq_false_iff.mpr c4
      subst c4
      have H1 : (if a0_0 = true then (some false) else (some ((l0_3.length : Int) == 0))) = some r := by rw [if_neg (show ¬ (false = true) by decide)] at H; exact H
      clear H
      have H := H1
      clear H1
      by_cases c9 : a0_0 = true
      · subst c9
        have H1 : (some false) = some r := by rw [if_pos rfl] at H; exact H
        clear H
        have H := H1
        clear H1
        obtain rfl := Option.some.inj H
        go_enter Tryz.func36, Tryz.ntmps36
        go_wp2_with (first | ((with_reducible refine gate_dst (N := 1) rfl ?_); (try (refine gate_guard (by rfl) ?_; dsimp only)); refine box_event ?hg (N := 1) ?hd (cs := #[.bool true, .bool false, .bool a0_2, .slice A0_3 l0_3.length c0_3, .int .i64 a0_4, .int .i64 a0_5]) (t := 42) ?hr ?_; (case hd => rfl); (case hg => rfl); (case hr => first | (go_simp; done) | (go_simp; rfl)); intro gb415 hg w10 hbox hb; have n0_ := Aside0.mk (below_step (by repeat (first | (with_reducible first | exact HB.out | apply below_alloc | apply pw_below_drewN | apply below_drew1) | exact HB.out)) hb); have n1_ := Aside0.mk (hbox); have n2_ := Aside0.mk ((by rw [hg]; exact (below_size (by repeat (first | (with_reducible first | exact HB.out | apply below_alloc | apply pw_below_drewN | apply below_drew1) | exact HB.out))) : w.heap.size ≤ gb415)); have n3_ := Aside0.mk ((by rw [hg]; exact (below_size (by repeat (first | (with_reducible first | exact HB.out | apply below_alloc | apply pw_below_drewN | apply below_drew1) | exact HB.out))) : w.heap.size ≤ gb415)); clear HB; have HB := n0_; have BK415 := n1_; have GW415 := n2_; have GE415 := n3_; clear n0_ n1_ n2_ n3_; clear hb hbox hg; have hcz11_0 : w10.cell? ⟨gb415, 0, none⟩ = some (.bool true) := (blk_cell BK415.out 0).trans rfl; have hcz11_1 : w10.cell? ⟨gb415, 1, none⟩ = some (.bool false) := (blk_cell BK415.out 1).trans rfl; have hcz11_2 : w10.cell? ⟨gb415, 2, none⟩ = some (.bool a0_2) := (blk_cell BK415.out 2).trans rfl; have hcz11_3 : w10.cell? ⟨gb415, 3, none⟩ = some (.slice A0_3 l0_3.length c0_3) := (blk_cell BK415.out 3).trans rfl; have hcz11_4 : w10.cell? ⟨gb415, 4, none⟩ = some (.int .i64 a0_4) := (blk_cell BK415.out 4).trans rfl; have hcz11_5 : w10.cell? ⟨gb415, 5, none⟩ = some (.int .i64 a0_5) := (blk_cell BK415.out 5).trans rfl; have hfz11_0 := blk_frozen BK415.out 0; have hfz11_1 := blk_frozen BK415.out 1; have hfz11_2 := blk_frozen BK415.out 2; have hfz11_3 := blk_frozen BK415.out 3; have hfz11_4 := blk_frozen BK415.out 4; have hfz11_5 := blk_frozen BK415.out 5) | ((with_reducible refine gate_callee (f := 41) rfl ?_); refine goesL_ (some 4) rfl rfl Tryz.func41 (by kernel_rfl) rfl #[.agg #[.bool true, .bool false, .bool a0_2, .slice A0_3 l0_3.length c0_3, .int .i64 a0_4, .int .i64 a0_5]] rfl (by (try simp only [List.map_toArray, List.map_cons, List.map_nil]); first | done | rfl | (simp only [List.length_drop, List.length_take]; rfl)) ?_; (with_reducible refine (valset_Check.calls true false a0_2 _ _ l0_3 a0_4 a0_5 t416 _ ?side1 ?side2 ?side3 A2.out).mono ?_); (case side1 => repeat (first | exact (Kd.C_below HR0_3.out HB.out) | (with_reducible refine Kd.C_alloc ?_ _) | (with_reducible refine Kd.C_drewN ?_ _) | (with_reducible refine Kd.C_drew ?_))); (case side2 => exact HC0_3.out); (case side3 => exact GL.of_below hG (by repeat (first | (with_reducible first | exact HB.out | apply below_alloc | apply pw_below_drewN | apply below_drew1 | refine below_set ?_ GE415.out) | exact HB.out))); rintro e w12 ⟨rfl, hb⟩; refine ⟨_, rfl, ?_⟩; have n0_ := Aside0.mk (blk_below (g := gb415) (o := .cells #[.bool true, .bool false, .bool a0_2, .slice A0_3 l0_3.length c0_3, .int .i64 a0_4, .int .i64 a0_5] 42 (0, 0)) (by (with_reducible repeat (first | refine blk_drewN ?_ _ | refine blk_drew ?_ | refine blk_alloc ?_ _)); exact BK415.out) hb); have n1_ := Aside0.mk (below_step (by repeat (first | (with_reducible first | exact HB.out | apply below_alloc | apply pw_below_drewN | apply below_drew1 | refine below_set ?_ GE415.out) | exact HB.out)) hb); clear BK415; clear HB; have BK415 := n0_; have HB := n1_; clear n0_ n1_; (try clear hb); (try clear hb2); (try clear hk); (try clear hi); have hcz13_0 : w12.cell? ⟨gb415, 0, none⟩ = some (.bool true) := (blk_cell BK415.out 0).trans rfl; have hcz13_1 : w12.cell? ⟨gb415, 1, none⟩ = some (.bool false) := (blk_cell BK415.out 1).trans rfl; have hcz13_2 : w12.cell? ⟨gb415, 2, none⟩ = some (.bool a0_2) := (blk_cell BK415.out 2).trans rfl; have hcz13_3 : w12.cell? ⟨gb415, 3, none⟩ = some (.slice A0_3 l0_3.length c0_3) := (blk_cell BK415.out 3).trans rfl; have hcz13_4 : w12.cell? ⟨gb415, 4, none⟩ = some (.int .i64 a0_4) := (blk_cell BK415.out 4).trans rfl; have hcz13_5 : w12.cell? ⟨gb415, 5, none⟩ = some (.int .i64 a0_5) := (blk_cell BK415.out 5).trans rfl; have hfz13_0 := blk_frozen BK415.out 0; have hfz13_1 := blk_frozen BK415.out 1; have hfz13_2 := blk_frozen BK415.out 2; have hfz13_3 := blk_frozen BK415.out 3; have hfz13_4 := blk_frozen BK415.out 4; have hfz13_5 := blk_frozen BK415.out 5))
        go_ret
        exact ⟨by first | rfl | (simp [errW_none, errW_some] <;> rfl) | (simp [*, errW_none, errW_some] <;> rfl), by repeat (first | (with_reducible first | exact HB.out | apply below_alloc | apply pw_below_drewN | apply below_drew1 | refine below_set ?_ GE415.out) | exact HB.out)⟩
      · replace c9 := Bool.eq_false_iff.mpr c9
        subst c9
        have H1 : (some ((l0_3.length : Int) == 0)) = some r := by rw [if_neg (show ¬ (false = true) by decide)] at H; exact H
        clear H
        have H := H1
        clear H1
        obtain rfl := Option.some.inj H
        go_enter Tryz.func36, Tryz.ntmps36
        go_wp2_with (first | ((with_reducible refine gate_dst (N := 1) rfl ?_); (try (refine gate_guard (by rfl) ?_; dsimp only)); refine box_event ?hg (N := 1) ?hd (cs := #[.bool false, .bool false, .bool a0_2, .slice A0_3 l0_3.length c0_3, .int .i64 a0_4, .int .i64 a0_5]) (t := 42) ?hr ?_; (case hd => rfl); (case hg => rfl); (case hr => first | (go_simp; done) | (go_simp; rfl)); intro gb415 hg w14 hbox hb; have n0_ := Aside0.mk (below_step (by repeat (first | (with_reducible first | exact HB.out | apply below_alloc | apply pw_below_drewN | apply below_drew1) | exact HB.out)) hb); have n1_ := Aside0.mk (hbox); have n2_ := Aside0.mk ((by rw [hg]; exact (below_size (by repeat (first | (with_reducible first | exact HB.out | apply below_alloc | apply pw_below_drewN | apply below_drew1) | exact HB.out))) : w.heap.size ≤ gb415)); have n3_ := Aside0.mk ((by rw [hg]; exact (below_size (by repeat (first | (with_reducible first | exact HB.out | apply below_alloc | apply pw_below_drewN | apply below_drew1) | exact HB.out))) : w.heap.size ≤ gb415)); clear HB; have HB := n0_; have BK415 := n1_; have GW415 := n2_; have GE415 := n3_; clear n0_ n1_ n2_ n3_; clear hb hbox hg; have hcz15_0 : w14.cell? ⟨gb415, 0, none⟩ = some (.bool false) := (blk_cell BK415.out 0).trans rfl; have hcz15_1 : w14.cell? ⟨gb415, 1, none⟩ = some (.bool false) := (blk_cell BK415.out 1).trans rfl; have hcz15_2 : w14.cell? ⟨gb415, 2, none⟩ = some (.bool a0_2) := (blk_cell BK415.out 2).trans rfl; have hcz15_3 : w14.cell? ⟨gb415, 3, none⟩ = some (.slice A0_3 l0_3.length c0_3) := (blk_cell BK415.out 3).trans rfl; have hcz15_4 : w14.cell? ⟨gb415, 4, none⟩ = some (.int .i64 a0_4) := (blk_cell BK415.out 4).trans rfl; have hcz15_5 : w14.cell? ⟨gb415, 5, none⟩ = some (.int .i64 a0_5) := (blk_cell BK415.out 5).trans rfl; have hfz15_0 := blk_frozen BK415.out 0; have hfz15_1 := blk_frozen BK415.out 1; have hfz15_2 := blk_frozen BK415.out 2; have hfz15_3 := blk_frozen BK415.out 3; have hfz15_4 := blk_frozen BK415.out 4; have hfz15_5 := blk_frozen BK415.out 5) | ((with_reducible refine gate_callee (f := 41) rfl ?_); refine goesL_ (some 4) rfl rfl Tryz.func41 (by kernel_rfl) rfl #[.agg #[.bool false, .bool false, .bool a0_2, .slice A0_3 l0_3.length c0_3, .int .i64 a0_4, .int .i64 a0_5]] rfl (by (try simp only [List.map_toArray, List.map_cons, List.map_nil]); first | done | rfl | (simp only [List.length_drop, List.length_take]; rfl)) ?_; (with_reducible refine (valset_Check.calls false false a0_2 _ _ l0_3 a0_4 a0_5 t416 _ ?side1 ?side2 ?side3 A2.out).mono ?_); (case side1 => repeat (first | exact (Kd.C_below HR0_3.out HB.out) | (with_reducible refine Kd.C_alloc ?_ _) | (with_reducible refine Kd.C_drewN ?_ _) | (with_reducible refine Kd.C_drew ?_))); (case side2 => exact HC0_3.out); (case side3 => exact GL.of_below hG (by repeat (first | (with_reducible first | exact HB.out | apply below_alloc | apply pw_below_drewN | apply below_drew1 | refine below_set ?_ GE415.out) | exact HB.out))); rintro e w16 ⟨rfl, hb⟩; refine ⟨_, rfl, ?_⟩; have n0_ := Aside0.mk (blk_below (g := gb415) (o := .cells #[.bool false, .bool false, .bool a0_2, .slice A0_3 l0_3.length c0_3, .int .i64 a0_4, .int .i64 a0_5] 42 (0, 0)) (by (with_reducible repeat (first | refine blk_drewN ?_ _ | refine blk_drew ?_ | refine blk_alloc ?_ _)); exact BK415.out) hb); have n1_ := Aside0.mk (below_step (by repeat (first | (with_reducible first | exact HB.out | apply below_alloc | apply pw_below_drewN | apply below_drew1 | refine below_set ?_ GE415.out) | exact HB.out)) hb); clear BK415; clear HB; have BK415 := n0_; have HB := n1_; clear n0_ n1_; (try clear hb); (try clear hb2); (try clear hk); (try clear hi); have hcz17_0 : w16.cell? ⟨gb415, 0, none⟩ = some (.bool false) := (blk_cell BK415.out 0).trans rfl; have hcz17_1 : w16.cell? ⟨gb415, 1, none⟩ = some (.bool false) := (blk_cell BK415.out 1).trans rfl; have hcz17_2 : w16.cell? ⟨gb415, 2, none⟩ = some (.bool a0_2) := (blk_cell BK415.out 2).trans rfl; have hcz17_3 : w16.cell? ⟨gb415, 3, none⟩ = some (.slice A0_3 l0_3.length c0_3) := (blk_cell BK415.out 3).trans rfl; have hcz17_4 : w16.cell? ⟨gb415, 4, none⟩ = some (.int .i64 a0_4) := (blk_cell BK415.out 4).trans rfl; have hcz17_5 : w16.cell? ⟨gb415, 5, none⟩ = some (.int .i64 a0_5) := (blk_cell BK415.out 5).trans rfl; have hfz17_0 := blk_frozen BK415.out 0; have hfz17_1 := blk_frozen BK415.out 1; have hfz17_2 := blk_frozen BK415.out 2; have hfz17_3 := blk_frozen BK415.out 3; have hfz17_4 := blk_frozen BK415.out 4; have hfz17_5 := blk_frozen BK415.out 5))
        go_ret
        exact ⟨by first | rfl | (simp [errW_none, errW_some] <;> rfl) | (simp [*, errW_none, errW_some] <;> rfl), by repeat (first | (with_reducible first | exact HB.out | apply below_alloc | apply pw_below_drewN | apply below_drew1 | refine below_set ?_ GE415.out) | exact HB.out)⟩
  · rw [if_neg c3] at H
    have c3b0 : (t416 == 0) = false := beq_eq_false_iff_ne.mpr c3
    have c3b1 : (t416 != 0) = true := bne_iff_ne.mpr c3
    obtain rfl := Option.some.inj H
    go_enter Tryz.func36, Tryz.ntmps36
    go_wp2_with (first | ((with_reducible refine gate_dst (N := 1) rfl ?_); (try (refine gate_guard (by rfl) ?_; dsimp only)); refine box_event ?hg (N := 1) ?hd (cs := #[.bool a0_0, .bool a0_1, .bool a0_2, .slice A0_3 l0_3.length c0_3, .int .i64 a0_4, .int .i64 a0_5]) (t := 42) ?hr ?_; (case hd => rfl); (case hg => rfl); (case hr => first | (go_simp; done) | (go_simp; rfl)); intro gb415 hg w18 hbox hb; have n0_ := Aside0.mk (below_step (by repeat (first | (with_reducible first | exact HB.out | apply below_alloc | apply pw_below_drewN | apply below_drew1) | exact HB.out)) hb); have n1_ := Aside0.mk (hbox); have n2_ := Aside0.mk ((by rw [hg]; exact (below_size (by repeat (first | (with_reducible first | exact HB.out | apply below_alloc | apply pw_below_drewN | apply below_drew1) | exact HB.out))) : w.heap.size ≤ gb415)); have n3_ := Aside0.mk ((by rw [hg]; exact (below_size (by repeat (first | (with_reducible first | exact HB.out | apply below_alloc | apply pw_below_drewN | apply below_drew1) | exact HB.out))) : w.heap.size ≤ gb415)); clear HB; have HB := n0_; have BK415 := n1_; have GW415 := n2_; have GE415 := n3_; clear n0_ n1_ n2_ n3_; clear hb hbox hg; have hcz19_0 : w18.cell? ⟨gb415, 0, none⟩ = some (.bool a0_0) := (blk_cell BK415.out 0).trans rfl; have hcz19_1 : w18.cell? ⟨gb415, 1, none⟩ = some (.bool a0_1) := (blk_cell BK415.out 1).trans rfl; have hcz19_2 : w18.cell? ⟨gb415, 2, none⟩ = some (.bool a0_2) := (blk_cell BK415.out 2).trans rfl; have hcz19_3 : w18.cell? ⟨gb415, 3, none⟩ = some (.slice A0_3 l0_3.length c0_3) := (blk_cell BK415.out 3).trans rfl; have hcz19_4 : w18.cell? ⟨gb415, 4, none⟩ = some (.int .i64 a0_4) := (blk_cell BK415.out 4).trans rfl; have hcz19_5 : w18.cell? ⟨gb415, 5, none⟩ = some (.int .i64 a0_5) := (blk_cell BK415.out 5).trans rfl; have hfz19_0 := blk_frozen BK415.out 0; have hfz19_1 := blk_frozen BK415.out 1; have hfz19_2 := blk_frozen BK415.out 2; have hfz19_3 := blk_frozen BK415.out 3; have hfz19_4 := blk_frozen BK415.out 4; have hfz19_5 := blk_frozen BK415.out 5) | ((with_reducible refine gate_callee (f := 41) rfl ?_); refine goesL_ (some 4) rfl rfl Tryz.func41 (by kernel_rfl) rfl #[.agg #[.bool a0_0, .bool a0_1, .bool a0_2, .slice A0_3 l0_3.length c0_3, .int .i64 a0_4, .int .i64 a0_5]] rfl (by (try simp only [List.map_toArray, List.map_cons, List.map_nil]); first | done | rfl | (simp only [List.length_drop, List.length_take]; rfl)) ?_; (with_reducible refine (valset_Check.calls a0_0 a0_1 a0_2 _ _ l0_3 a0_4 a0_5 t416 _ ?side1 ?side2 ?side3 A2.out).mono ?_); (case side1 => repeat (first | exact (Kd.C_below HR0_3.out HB.out) | (with_reducible refine Kd.C_alloc ?_ _) | (with_reducible refine Kd.C_drewN ?_ _) | (with_reducible refine Kd.C_drew ?_))); (case side2 => exact HC0_3.out); (case side3 => exact GL.of_below hG (by repeat (first | (with_reducible first | exact HB.out | apply below_alloc | apply pw_below_drewN | apply below_drew1 | refine below_set ?_ GE415.out) | exact HB.out))); rintro e w20 ⟨rfl, hb⟩; refine ⟨_, rfl, ?_⟩; have n0_ := Aside0.mk (blk_below (g := gb415) (o := .cells #[.bool a0_0, .bool a0_1, .bool a0_2, .slice A0_3 l0_3.length c0_3, .int .i64 a0_4, .int .i64 a0_5] 42 (0, 0)) (by (with_reducible repeat (first | refine blk_drewN ?_ _ | refine blk_drew ?_ | refine blk_alloc ?_ _)); exact BK415.out) hb); have n1_ := Aside0.mk (below_step (by repeat (first | (with_reducible first | exact HB.out | apply below_alloc | apply pw_below_drewN | apply below_drew1 | refine below_set ?_ GE415.out) | exact HB.out)) hb); clear BK415; clear HB; have BK415 := n0_; have HB := n1_; clear n0_ n1_; (try clear hb); (try clear hb2); (try clear hk); (try clear hi)))
    go_ret
    exact ⟨by first | rfl | (simp [errW_none, errW_some] <;> rfl) | (simp [*, errW_none, errW_some] <;> rfl), by repeat (first | (with_reducible first | exact HB.out | apply below_alloc | apply pw_below_drewN | apply below_drew1 | refine below_set ?_ GE415.out) | exact HB.out)⟩
end Go.Proofs.YtblfbdlhphhfnaaGreatDoor.PA
namespace Go.Proofs.YtblfbdlhphhfnaaGreatDoor.PA
open Go.RowKit Go.Maps Go.Sort Go.Shelf Go.Proofs.YtblfbdlhphhfnaaGreatDoorW.PrintWords Go.Proofs.YtblfbdlhphhfnaaGreatDoorW.PrintLast
set_option linter.unusedVariables false
set_option linter.unusedSimpArgs false
/-- Whether a set that may be has a value. -/
def setHas (s : PSet) (v : ByteArray) : Bool := decide (checkP s.neg s.num s.vals s.lo s.hi = 0) && isValue v && hasP s.neg s.num s.vals s.lo s.hi v
theorem has_f (s : S42) (v : ByteArray) (hs : SmallV s.f3) (hl : s.f3.length ≤ 9223372036854775807) (hv : v.size ≤ 140737488351232) : valset_Has.f (s.f3.length + 1) s.f0 s.f1 s.f2 s.f3 s.f4 s.f5 v = some (setHas (sP s) v) := by
  unfold valset_Has.f valset_Check.f setHas
  rw [if_pos ((smallL_iff _).2 hs), Option.bind_some]
  show (if checkP s.f1 s.f2 s.f3 s.f4 s.f5 = 0 then _ else _) = some (decide (checkP s.f1 s.f2 s.f3 s.f4 s.f5 = 0) && isValue v && hasP s.f1 s.f2 s.f3 s.f4 s.f5 v)
  by_cases h0 : checkP s.f1 s.f2 s.f3 s.f4 s.f5 = 0
  · rw [if_pos h0, Value_pure v hv, Option.bind_some, has_pure _ _ _ _ _ _ _ hl hv, decide_eq_true h0]
    cases isValue v <;> simp
  · rw [if_neg h0, decide_eq_false h0]; simp
/-- A set that no value is in, and that may not be missing. -/
def setEmpty (s : PSet) : Bool := decide (checkP s.neg s.num s.vals s.lo s.hi = 0) && !s.neg && !s.miss && decide (s.vals.length = 0)
theorem empty_f (s : S42) (hs : SmallV s.f3) : valset_Empty.f s.f0 s.f1 s.f2 s.f3 s.f4 s.f5 = some (setEmpty (sP s)) := by
  unfold valset_Empty.f valset_Check.f setEmpty
  rw [if_pos ((smallL_iff _).2 hs), Option.bind_some]
  show (if checkP s.f1 s.f2 s.f3 s.f4 s.f5 = 0 then _ else _) = some (decide (checkP s.f1 s.f2 s.f3 s.f4 s.f5 = 0) && !s.f1 && !s.f0 && decide (s.f3.length = 0))
  by_cases h0 : checkP s.f1 s.f2 s.f3 s.f4 s.f5 = 0
  · rw [if_pos h0, decide_eq_true h0]
    have e : ((s.f3.length : Int) == 0) = decide (s.f3.length = 0) := by rw [Bool.eq_iff_iff]; simp
    rw [e]
    cases s.f1 <;> cases s.f0 <;> simp
  · rw [if_neg h0, decide_eq_false h0]; simp
/-- Why labels may not be. -/
def labE : List S34 → List ByteArray → Int
  | [], _ => 0
  | x :: r, seen => if (isName x.f0.data.toList && isValue x.f1) = true then (if memS seen x.f0 = true then 6 else labE r (seen ++ [x.f0])) else 20
/-- The value of a label. -/
def valOf : List S34 → ByteArray → Option ByteArray
  | [], _ => none
  | x :: r, k => if x.f0 = k then some x.f1 else valOf r k
/-- Whether a set admits what labels have at a key. -/
def adm1 (labels : List S34) (key : ByteArray) (s : PSet) : Bool := match valOf labels key with
  | some v => setHas s v
  | none => s.miss
def admL (labels : List S34) : List S25 → List S42 → Bool
  | r :: l, s :: all => adm1 labels r.f0 (sP s) && admL labels l all
  | _, _ => true
def admitsP (l : List S25) (labels : List S34) : Bool × Int :=
  if (setsP l 16).2 = 0 then (if labE labels [] = 0 then (admL labels l (setsP l 16).1, 0) else (false, labE labels [])) else (false, (setsP l 16).2)
def SmallLab (l : List S34) : Prop := ∀ x ∈ l, x.f0.size ≤ 140737488351232 ∧ x.f1.size ≤ 140737488351232
def labA (ls : List S34) : ByteArray → Option Value := fun s => (valOf ls s).map Value.string
theorem valOf_snoc (ls : List S34) (x : S34) (k : ByteArray) : valOf (ls ++ [x]) k = match valOf ls k with | some v => some v | none => if x.f0 = k then some x.f1 else none := by
  induction ls with
  | nil => simp [valOf]
  | cons y r ih =>
    rw [List.cons_append, valOf, valOf, ih]
    by_cases e : y.f0 = k
    · rw [if_pos e, if_pos e]
    · rw [if_neg e, if_neg e]
theorem valOf_none {ls : List S34} {k : ByteArray} : valOf ls k = none ↔ memS (ls.map (·.f0)) k = false := by
  induction ls with
  | nil => simp [valOf, memS]
  | cons y r ih =>
    rw [valOf, List.map_cons, show memS (y.f0 :: r.map (·.f0)) k = (decide (y.f0 = k) || memS (r.map (·.f0)) k) by unfold memS; rw [List.any_cons]]
    by_cases e : y.f0 = k
    · rw [if_pos e, decide_eq_true e]; simp
    · rw [if_neg e, decide_eq_false e, ih]; simp
theorem labA_put {ls : List S34} {x : S34} (h : memS (ls.map (·.f0)) x.f0 = false) : putV (labA ls) x.f0 (.string x.f1) = labA (ls ++ [x]) := by
  funext s
  unfold putV labA
  rw [valOf_snoc]
  by_cases e : s = x.f0
  · subst e
    rw [if_pos rfl, valOf_none.2 h]
    dsimp only
    rw [if_pos rfl]; rfl
  · rw [if_neg e]
    cases valOf ls s with
    | some v => rfl
    | none =>
      dsimp only
      rw [if_neg (fun h => e h.symm)]
theorem labE_at {labels : List S34} {k : Nat} (hlt : k < labels.length) {x : S34} (ex : x = rd_T34 labels k) (seen : List ByteArray) :
    labE (labels.drop k) seen = if (isName x.f0.data.toList && isValue x.f1) = true then (if memS seen x.f0 = true then 6 else labE (labels.drop (k + 1)) (seen ++ [x.f0])) else 20 := by
  have e1 : rd_T34 labels k = labels[k] := by simp [rd_T34, List.getD_eq_getElem?_getD, List.getElem?_eq_getElem hlt]
  rw [List.drop_eq_getElem_cons hlt, labE, ex, e1]
theorem take_rd {labels : List S34} {k : Nat} (hlt : k < labels.length) {x : S34} (ex : x = rd_T34 labels k) : labels.take (k + 1) = labels.take k ++ [x] := by
  have e1 : rd_T34 labels k = labels[k] := by simp [rd_T34, List.getD_eq_getElem?_getD, List.getElem?_eq_getElem hlt]
  rw [List.take_succ_eq_append_getElem hlt, ex, e1]
theorem mem_rdL {labels : List S34} {k : Nat} (hlt : k < labels.length) {x : S34} (ex : x = rd_T34 labels k) : x ∈ labels := by
  rw [ex]
  simp only [rd_T34, Int.toNat_natCast, List.getD_eq_getElem?_getD, List.getElem?_eq_getElem hlt, Option.getD_some]
  exact List.getElem_mem hlt
theorem admL_at {labels : List S34} {l : List S25} {all : List S42} {k : Nat} {key : ByteArray} {s : S42} (hlt : k < l.length) (hln : all.length = l.length) (es : s = rd_T42 all k) (ek : key = (rd_T25 l k).f0) :
    admL labels (l.drop k) (all.drop k) = (adm1 labels key (sP s) && admL labels (l.drop (k + 1)) (all.drop (k + 1))) := by
  have hk2 : k < all.length := by omega
  have e1 : rd_T42 all k = all[k] := by simp [rd_T42, List.getD_eq_getElem?_getD, List.getElem?_eq_getElem hk2]
  have e2 : rd_T25 l k = l[k] := by simp [rd_T25, List.getD_eq_getElem?_getD, List.getElem?_eq_getElem hlt]
  rw [List.drop_eq_getElem_cons hlt, List.drop_eq_getElem_cons hk2, admL, es, ek, e1, e2]
theorem zeroStr (w : World) : (zeroValue 9).run Tryz.prog w = .ok (.string ⟨#[]⟩) w := by kernel_rfl
def smallLabB (l : List S34) : Bool := l.all fun r => decide (r.f0.size ≤ 140737488351232) && decide (r.f1.size ≤ 140737488351232)
theorem smallLabB_iff (l : List S34) : smallLabB l = true ↔ SmallLab l := by
  unfold smallLabB SmallLab
  simp only [List.all_eq_true, Bool.and_eq_true, decide_eq_true_iff]
end Go.Proofs.YtblfbdlhphhfnaaGreatDoor.PA
