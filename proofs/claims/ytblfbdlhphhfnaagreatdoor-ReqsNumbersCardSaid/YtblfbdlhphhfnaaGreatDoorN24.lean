import Derived.Test.YtblfbdlhphhfnaaGreatDoorN4
import Derived.Test.YtblfbdlhphhfnaaGreatDoorN5
import Derived.Test.YtblfbdlhphhfnaaGreatDoorN6
import Derived.Test.YtblfbdlhphhfnaaGreatDoorN11
namespace Go.Proofs.YtblfbdlhphhfnaaGreatDoor.PA
open Go.RowKit Go.Maps Go.Sort Go.Proofs.YtblfbdlhphhfnaaGreatDoorW.PrintWords Go.Proofs.YtblfbdlhphhfnaaGreatDoorW.PrintLast
set_option linter.unusedVariables false
set_option linter.unusedSimpArgs false
/-- A reader that tells the very value. -/
def Exact (R : Value → Option (DataW Value × List MemPlace)) : Prop := ∀ v y, R v = some y → y = (.held v, [])
def anyElem (v : Value) : Option (DataW Value × List MemPlace) := some (.held v, [])
theorem anyElem_exact : Exact anyElem := fun v y h => (Option.some.inj h).symm
structure VIs (D : DataW Value) (A : ByteArray → Option Value) : Prop where
  has : ∀ s : ByteArray, Maps.has D (.string s.data.toList) = (A s).isSome
  val : ∀ (s : ByteArray) v z, A s = some v → D.atKey (.string s.data.toList) z = .held v
def VAt (R : Value → Option (DataW Value × List MemPlace)) (w : World) (b n : Nat) (A : ByteArray → Option Value) : Prop := ∃ D : DataW Value, w.ownsMap Tryz.prog 9 R b n D ∧ VIs D A
def putV (A : ByteArray → Option Value) (s : ByteArray) (v : Value) : ByteArray → Option Value := fun x => if x = s then some v else A x
theorem str_ne {x s : ByteArray} (h : x ≠ s) : (Lit.string x.data.toList) ≠ .string s.data.toList := fun e => h (ba_ext (Lit.string.inj e))
theorem VIs.empty : VIs (.map []) (fun _ => none) := ⟨fun s => rfl, fun s v z h => by cases h⟩
theorem VIs.put {D : DataW Value} {A : ByteArray → Option Value} (h : VIs D A) (ht : Maps.Tidy D) (s : ByteArray) (v : Value) : VIs (D.put (.string s.data.toList) (.held v)) (putV A s v) := by
  have hk : WideAt.IsKeyLit (.string s.data.toList) := trivial
  refine ⟨fun x => ?_, fun x u z hx => ?_⟩
  · unfold putV
    by_cases e : x = s
    · subst e; rw [Maps.has_put_same ht.isMap hk, if_pos rfl]; rfl
    · rw [Maps.has_put_other (str_ne e), h.has, if_neg e]
  · unfold putV at hx
    by_cases e : x = s
    · subst e; rw [if_pos rfl] at hx; rw [Maps.atKey_put_same ht.isMap hk, Option.some.inj hx]
    · rw [if_neg e] at hx; rw [Maps.atKey_put_other (str_ne e), h.val x u z hx]
variable {R : Value → Option (DataW Value × List MemPlace)}
theorem VAt.made (w : World) : VAt R (w.alloc (.map #[] 0)) w.heap.size 0 (fun _ => none) := ⟨_, World.ownsMap_made _ _ _ _, VIs.empty⟩
theorem VAt.map {w : World} {b n : Nat} {A : ByteArray → Option Value} (h : VAt R w b n A) : ∃ es clock, w.heap[b]? = some (.map es clock) := by obtain ⟨D, ⟨es, clock, hb, _⟩, _⟩ := h; exact ⟨es, clock, hb⟩
theorem VAt.kept {w w' : World} {b n : Nat} {A : ByteArray → Option Value} {row : Option Nat} (h : VAt R w b n A) (hg : w.grownBy w' row) (hne : some b ≠ row) : VAt R w' b n A := by
  obtain ⟨D, h, i⟩ := h; exact ⟨D, h.kept hg hne, i⟩
theorem VAt.below {w w' : World} {b n : Nat} {A : ByteArray → Option Value} (h : VAt R w b n A) (hb : Below w.heap.size w w') : VAt R w' b n A := h.kept (grown_of_below hb none) (by simp)
theorem VAt.far {w : World} {b n : Nat} {A : ByteArray → Option Value} (h : VAt R w b n A) {a : Addr} (ha : b ≠ a.block) (u : Value) : VAt R (w.setCell a u) b n A := by
  obtain ⟨D, h, i⟩ := h; exact ⟨D, h.setCell ha u, i⟩
section
variable {w : World} {ops : Array Oper} {rest : List Oper} {o : Oper} {a : Act} {Q : Exit → Act → World → Prop} {b n : Nat} {A : ByteArray → Option Value}
/-- 'm[s] = v'. -/
theorem v_put (h : VAt R w b n A) (hg : o.guard = none) (t e : TypeId) (ht : Tryz.prog.underlying t = some (.map 9 e)) (m x v : Operand) (hop : o.op = Op.mapUpdate t m x v) (s : ByteArray) (u : Value) (hm : a.eval m = .map (some b)) (hx : a.eval x = .string s) (hv : a.eval v = u) (hR : R u = some (.held u, []))
    (hs : s.size ≤ maxLen) (hn : n < maxLen) (hK : ∀ w', VAt R w' b (n + 1) (putV A s u) → w.grownBy w' (some b) → wpList Tryz.prog ops Q rest (a.put o.dst undef) w') : wpList Tryz.prog ops Q (o :: rest) a w := by
  obtain ⟨D, ho, hi⟩ := h
  refine wpList_mapUpdate_own w hg m x v t hop 9 e keyS ht _ b _ D hm ho hn _ _ _ hx hv (key_of hs) (.held u) [] hR ?_
  intro w' ho' hgr
  exact hK w' ⟨_, ho', hi.put (ho.tidy keyS) s u⟩ hgr
set_option maxRecDepth 100000 in
theorem run_v_look (hE : Exact R) (h : VAt R w b n A) (t e : TypeId) (ht : Tryz.prog.underlying t = some (.map 9 e)) (z : Value) (hz : (zeroValue e).run Tryz.prog w = .ok z w) (hRz : R z = some (.held z, [])) (s : ByteArray) (hs : s.size ≤ maxLen) : (Instr.lookup t (.map (some b)) (.string s) true).run Tryz.prog w = .ok (.tuple #[(A s).getD z, .bool (A s).isSome]) w := by
  obtain ⟨D, ho, hi⟩ := h
  obtain ⟨v, ps, hrun, hR⟩ := ho.look_ok keyS ht hz hRz (key_of hs)
  rw [hi.has] at hrun
  have hx1 : D.atKey (.string s.data.toList) (.held z) = .held v := congrArg Prod.fst (hE _ _ hR)
  cases hA : A s with
  | some u =>
    rw [hi.val s u _ hA] at hx1
    rw [hA] at hrun
    rw [hrun, DataW.held.inj hx1]
    rfl
  | none =>
    have hh : Maps.has D (.string s.data.toList) = false := by rw [hi.has, hA]; rfl
    rw [Maps.atKey_of_not_has hh] at hx1
    rw [hA] at hrun
    rw [hrun, DataW.held.inj hx1]
    rfl
end
end Go.Proofs.YtblfbdlhphhfnaaGreatDoor.PA
namespace Go.Proofs.YtblfbdlhphhfnaaGreatDoor.PA
open Go.RowKit Go.Proofs.YtblfbdlhphhfnaaGreatDoorW.PrintWords Go.Proofs.YtblfbdlhphhfnaaGreatDoorW.PrintLast Go.Proofs.YtblfbdlhphhfnaaGreatDoorW.PrintMore
set_option linter.unusedVariables false
set_option linter.unusedSimpArgs false
mutual
def sutlerref03_Number.l0 : Nat → ByteArray → Int → Int → Option (Int × Bool)
  | 0, _, _, _ => none
  | k + 1, x0, x4, x5 => if x5 < (x0.size : Int) then (if 0 ≤ x5 then (if (bt x0 x5) ≥ 48 then (if (bt x0 x5) ≤ 57 then (sutlerref03_Number.l0 k x0 (wrap64 ((wrap64 (x4 * 10)) + (((bt x0 x5) - 48) % 256))) (wrap64 (x5 + 1))) else (sutlerref03_Number.l0 k x0 x4 (wrap64 (x5 + 1)))) else (sutlerref03_Number.l0 k x0 x4 (wrap64 (x5 + 1)))) else (none)) else (if (x0.size : Int) > 0 then (if 0 < (x0.size : Int) then (sutlerref03_Number.j1 k x0 x4 ((bt x0 0) == 45)) else (none)) else (sutlerref03_Number.j1 k x0 x4 false))
def sutlerref03_Number.j1 : Nat → ByteArray → Int → Bool → Option (Int × Bool)
  | 0, _, _, _ => none
  | k + 1, x0, x4, x41 => if x41 = true then ((sutlerref03_Decimal.f k (wrap64 (-x4))).bind fun t237 => (if t237.toList = x0.toList then (if (wrap64 (-x4)) < (-2147483648) then (some (0, false)) else (if (wrap64 (-x4)) > 2147483648 then (some (0, false)) else (some (wrap64 (-x4), true)))) else (some (0, false)))) else ((sutlerref03_Decimal.f k x4).bind fun t238 => (if t238.toList = x0.toList then (if x4 < (-2147483648) then (some (0, false)) else (if x4 > 2147483648 then (some (0, false)) else (some (x4, true)))) else (some (0, false))))
end
end Go.Proofs.YtblfbdlhphhfnaaGreatDoor.PA
namespace Go.Proofs.YtblfbdlhphhfnaaGreatDoor.PA
open Go.RowKit Go.Proofs.YtblfbdlhphhfnaaGreatDoorW.PrintWords Go.Proofs.YtblfbdlhphhfnaaGreatDoorW.PrintLast Go.Proofs.YtblfbdlhphhfnaaGreatDoorW.PrintMore
set_option linter.unusedVariables false
set_option linter.unusedSimpArgs false
def sutlerlaw04_back.l0 : Nat → List (S25) → List (S25) → Int → Option ((List (S25)))
  | 0, _, _, _ => none
  | k + 1, x0, x3, x4 => if x4 ≥ 0 then (if 0 ≤ x4 then (if x4 < (x0.length : Int) then (if x3.length < 2513169434916 then (sutlerlaw04_back.l0 k x0 (x3 ++ [(⟨(rd_T25 x0 x4).f0, (rd_T25 x0 x4).f1, (rd_T25 x0 x4).f2, (rd_T25 x0 x4).f3⟩ : S25)]) (wrap64 (x4 - 1))) else (none)) else (none)) else (none)) else (if x3.length + x0.length < 2513169434916 then (some (x3 ++ x0)) else (none))
def sutlerlaw04_back.f (k : Nat) (l0 : List (S25)) : Option ((List (S25))) := sutlerlaw04_back.l0 k l0 ([] : List (S25)) (wrap64 ((l0.length : Int) - 1))
set_option maxHeartbeats 8000000 in
set_option maxRecDepth 100000 in
theorem sutlerlaw04_back.calls (k : Nat) (P0_ : Nat → Prop) (A0 : Option Addr) (c0 : Nat) (l0 : List (S25)) (r : List (S25)) (w : World) (hs0 : Kd.V k25 25 w w.heap.size (fun k_ => P0_ k_) (.slice A0 l0.length c0) l0) (h : sutlerlaw04_back.f k l0 = some r) :
    Calls Tryz.prog 19 #[.slice A0 l0.length c0] w fun e w' => ∃ v0_ : Value, e = .returned (v0_) ∧ Kd.N k25 25 w' w.heap.size (fun k_ => (P0_ k_ ∨ w.heap.size ≤ k_)) v0_ r ∧ Below w.heap.size w w' := by
  have hu25 := Tryz.underlying25
  have HO0 := Aside0.mk (show Kd.V k25 25 w w.heap.size (fun k_ => (P0_ k_ ∨ w.heap.size ≤ k_)) (.slice A0 l0.length c0) l0 from Kd.V_mono hs0 (fun k_ hk => .inl hk))
  have HB := Aside0.mk (Below.refl w.heap.size w)
  have H : (sutlerlaw04_back.l0 k l0 ([] : List (S25)) (wrap64 ((l0.length : Int) - 1))) = some r := h
  clear h
  have H' := Aside0.mk H
  clear H
  go_enter Tryz.func19, Tryz.ntmps19
  go_wp2
  go_loopg [3, 4] k (fun kq v3 v4 w' => ∃ (x3_1 : List (S25)) (x4_1 : Int), v4 = .int .i64 x4_1 ∧ Aside0 (sutlerlaw04_back.l0 kq l0 x3_1 x4_1 = some r) ∧ Aside0 (kq ≤ k) ∧ Aside0 (Kd.V k25 25 w' w.heap.size (fun k_ => (P0_ k_ ∨ w.heap.size ≤ k_) ∧ some k_ ≠ (v3 : Value).ownBlock) (.slice A0 l0.length c0) l0) ∧ Aside0 (Kd.N k25 25 w' w.heap.size (fun k_ => (P0_ k_ ∨ w.heap.size ≤ k_)) v3 x3_1) ∧ Aside0 (Below w.heap.size w w'))
  case atStart => exact ⟨(([] : List (S25))), (wrap64 ((l0.length : Int) - 1)), (by first | rfl | (simp; done) | (simp [*]; done)), H', ⟨Nat.le_refl _⟩, ⟨by (with_reducible repeat (first | apply Kd.V_alloc | apply Kd.V_drewN | apply Kd.V_drew)); exact Kd.V_mono HO0.out (fun _ hk => ⟨hk, (by simp [Value.ownBlock])⟩)⟩, ⟨by first | exact Kd.S_nil _ _ _ _ _ | exact Kd.N_nil _ _ _ _ _ | exact Kd.V_nil _ _ _ _ _ | exact Kd.Q_nil _ _ _ _ _ | exact Kd.R_nil _ _ _ _ _⟩, ⟨by repeat (first | (with_reducible first | exact HB.out | apply below_alloc | apply pw_below_drewN | apply below_drew1) | exact HB.out)⟩⟩
  case round =>
    clear H'
    try clear c1
    obtain ⟨x3_1, x4_1, rfl, HA, HK1, HO_0, HO_3, HB⟩ := hrel
    cases gk with
    | zero => exact absurd HA.out (by simp [sutlerlaw04_back.l0])
    | succ k1 =>
      have H := HA.out
      clear HA
      simp only [sutlerlaw04_back.l0] at H
      by_cases c2 : x4_1 ≥ 0
      · rw [if_pos c2] at H
        have c2b0 : decide (0 ≤ x4_1) = true := decide_eq_true c2
        clear c2
        by_cases c3 : 0 ≤ x4_1
        · rw [if_pos c3] at H
          have c3b0 : decide (0 ≤ x4_1) = true := decide_eq_true c3
          clear c3
          by_cases c4 : x4_1 < (l0.length : Int)
          · rw [if_pos c4] at H
            have c4b0 : decide (x4_1 < (l0.length : Int)) = true := decide_eq_true c4
            clear c4
            by_cases c5 : x3_1.length < 2513169434916
            · rw [if_pos c5] at H
              have LMc5 := Aside0.mk c5
              clear c5
              obtain ⟨y356, hy356⟩ : ∃ y_ : List (S25), y_ = (x3_1 ++ [(⟨(rd_T25 l0 x4_1).f0, (rd_T25 l0 x4_1).f1, (rd_T25 l0 x4_1).f2, (rd_T25 l0 x4_1).f3⟩ : S25)]) := ⟨_, rfl⟩
              replace H : (sutlerlaw04_back.l0 k1 l0 y356 (wrap64 (x4_1 - 1))) = some r := by first | (rw [hy356]; with_reducible exact H) | (have H2_ := (Option.bind_some _ _).symm.trans H; rw [hy356]; with_reducible exact H2_) | (have H2_ := (Option.bind_some _ _).symm.trans H; with_reducible exact H2_) | with_reducible exact H | (rw [hy356]; exact H) | exact H
              have Ny356 := Aside0.mk hy356
              clear hy356
              have H' := Aside0.mk H
              clear H
              have p355 : 0 ≤ (x4_1 : Int) := of_decide_eq_true (by first | (with_reducible assumption) | assumption)
              have q355 : x4_1 < (l0.length : Int) := of_decide_eq_true (by first | (with_reducible assumption) | assumption)
              obtain ⟨ad355, A355_2, c355_2, e355, hx355_0, hx355_1, hx355_2, hx355_3, hl355_2, hi355_2⟩ := at_T25 (Kd.V_reads' HO_0.out).2.2 x4_1 p355 q355
              cases e355
              obtain ⟨ce355, hce355, hMe355, hcc355⟩ := Kd.V_get HO_0.out z25 x4_1 p355 (by first | exact q355 | exact of_decide_eq_true (by first | (with_reducible assumption) | assumption) | (have e_ := (Kd.V_reads' HO_0.out).1; omega))
              obtain ⟨ua355_2, uc355_2, rfl, ul355_2, ge355_2⟩ := k25_openF hMe355
              have hv355_2 := hcc355 2 _ rfl
              rw [add_field _ _ 2 (by omega)] at hv355_2
              replace hv355_2 := Option.some.inj (hv355_2.symm.trans hx355_2)
              injection hv355_2 with hva_ hvn_ hvc_
              rw [hva_] at ge355_2
              rw [hvc_] at ul355_2
              have HL355_2 := Aside0.mk (show Kd.V Kd.string 9 _ w.heap.size _ _ ((rd_T25 l0 x4_1).f2) from Kd.V_mk ul355_2 ge355_2)
              clear hva_ hvn_ hvc_ ge355_2 ul355_2
              clear hcc355 hce355
              have HR355_2 := Aside0.mk hi355_2
              have HC355_2 := Aside0.mk hl355_2
              clear hi355_2 hl355_2
              replace p355 := eq_true p355
              replace q355 := eq_true q355
              go_wp2_with (first | ((with_reducible refine gate_builtin (b := .append) (xs := #[.tmp 12, .tmp 17]) rfl ?_); at_builtin; refine Kd.N_append k25 (w0 := w) w.heap.size rfl (.tmp 12) (.tmp 17) 22 25 (.agg #[(.string ⟨#[]⟩), (.int .i64 0), (.slice none 0 0), (.int .i64 0)]) 56 rfl Tryz.underlying22 info25 rfl (by decide) (by omega) u3 x3_1 (⟨(rd_T25 l0 x4_1).f0, (rd_T25 l0 x4_1).f1, (rd_T25 l0 x4_1).f2, (rd_T25 l0 x4_1).f3⟩ : S25) [.string ((rd_T25 l0 x4_1).f0), .int .i64 ((rd_T25 l0 x4_1).f1), .slice A355_2 ((rd_T25 l0 x4_1).f2).length c355_2, .int .i64 ((rd_T25 l0 x4_1).f3)] (fun k_ => (P0_ k_ ∨ w.heap.size ≤ k_)) (fun k_ => ((fun k_ => (P0_ k_ ∨ w.heap.size ≤ k_))) k_ ∧ some k_ ≠ (u3 : Value).ownBlock) rfl rfl ?aP (fun _ hk => hk) ?aF ?aO ?aB ?aS ?aL ?_; (case aP => exact (k25_mkF _ _ (⟨(rd_T25 l0 x4_1).f0, (rd_T25 l0 x4_1).f1, (rd_T25 l0 x4_1).f2, (rd_T25 l0 x4_1).f3⟩ : S25) (Kd.V_reads' (Kd.V_mono (ok' := (fun k_ => ((fun k_ => (P0_ k_ ∨ w.heap.size ≤ k_))) k_ ∧ some k_ ≠ (u3 : Value).ownBlock)) (HL355_2.out) (fun k_ hk => ⟨hk.1, hk.2⟩))).2.1 (Kd.V_F (Kd.V_mono (ok' := (fun k_ => ((fun k_ => (P0_ k_ ∨ w.heap.size ≤ k_))) k_ ∧ some k_ ≠ (u3 : Value).ownBlock)) (HL355_2.out) (fun k_ hk => ⟨hk.1, hk.2⟩))))); (case aB => exact (by repeat (first | (with_reducible first | exact HB.out | apply below_alloc | apply pw_below_drewN | apply below_drew1) | exact HB.out))); (case aF => exact (fun k_ hk => (.inr (Nat.le_trans (below_size (by repeat (first | (with_reducible first | exact HB.out | apply below_alloc | apply pw_below_drewN | apply below_drew1) | exact HB.out))) hk)))); (case aO => exact (by (with_reducible repeat (first | apply Kd.N_alloc | apply Kd.N_drewN | apply Kd.N_drew)); exact HO_3.out)); (case aS => exact (below_size (by repeat (first | (with_reducible first | exact HB.out | apply below_alloc | apply pw_below_drewN | apply below_drew1) | exact HB.out)))); (case aL => have := LMc5.out; omega); intro v357 w6 ho hb hg hat; rw [← Ny356.out] at ho; have n0_ := Aside0.mk (Kd.V_afterv (ok := (fun k_ => (P0_ k_ ∨ w.heap.size ≤ k_))) (by (with_reducible repeat (first | apply Kd.V_alloc | apply Kd.V_drewN | apply Kd.V_drew)); exact HO_0.out) hg hat); have n1_ := Aside0.mk (Kd.V_afterv (ok := (fun k_ => (P0_ k_ ∨ w.heap.size ≤ k_))) (by (with_reducible repeat (first | apply Kd.V_alloc | apply Kd.V_drewN | apply Kd.V_drew)); exact HL355_2.out) hg hat); have n2_ := Aside0.mk (hb); have n3_ := Aside0.mk (ho); clear HO_0; clear HL355_2; clear HB; clear HO_3; have HO_0 := n0_; have HL355_2 := n1_; have HB := n2_; have HO358 := n3_; clear n0_ n1_ n2_ n3_; clear ho hb hg hat))
              go_roundg k1
              case measure => have := HK1.out; omega
              case rel => exact ⟨(y356), (wrap64 (x4_1 - 1)), (by first | rfl | (simp; done) | (simp [*]; done)), H', ⟨by have := HK1.out; omega⟩, ⟨by (with_reducible repeat (first | apply Kd.V_alloc | apply Kd.V_drewN | apply Kd.V_drew)); exact HO_0.out⟩, ⟨by (with_reducible repeat (first | apply Kd.N_alloc | apply Kd.N_drewN | apply Kd.N_drew)); exact HO358.out⟩, ⟨by repeat (first | (with_reducible first | exact HB.out | apply below_alloc | apply pw_below_drewN | apply below_drew1) | exact HB.out)⟩⟩
            · rw [if_neg c5] at H
              exact absurd H (by simp)
          · rw [if_neg c4] at H
            exact absurd H (by simp)
        · rw [if_neg c3] at H
          exact absurd H (by simp)
      · rw [if_neg c2] at H
        have c2b0 : decide (0 ≤ x4_1) = false := decide_eq_false c2
        clear c2
        by_cases c7 : x3_1.length + l0.length < 2513169434916
        · rw [if_pos c7] at H
          have LMc7 := Aside0.mk c7
          clear c7
          obtain ⟨y359, hy359⟩ : ∃ y_ : List (S25), y_ = (x3_1 ++ l0) := ⟨_, rfl⟩
          replace H : (some y359) = some r := by first | (rw [hy359]; with_reducible exact H) | (have H2_ := (Option.bind_some _ _).symm.trans H; rw [hy359]; with_reducible exact H2_) | (have H2_ := (Option.bind_some _ _).symm.trans H; with_reducible exact H2_) | with_reducible exact H | (rw [hy359]; exact H) | exact H
          have Ny359 := Aside0.mk hy359
          clear hy359
          obtain rfl := Option.some.inj H
          go_wp2_with (first | ((with_reducible refine gate_builtin (b := .append) (xs := #[.tmp 19, .tmp 20]) rfl ?_); at_builtin; refine Kd.N_append_rows k25 (w0 := w) w.heap.size rfl (.tmp 19) (.tmp 20) 22 25 (.agg #[(.string ⟨#[]⟩), (.int .i64 0), (.slice none 0 0), (.int .i64 0)]) 56 rfl Tryz.underlying22 info25 rfl (by decide) (by omega) u3 x3_1 l0 _ _ _ (fun k_ => (P0_ k_ ∨ w.heap.size ≤ k_)) (fun k_ => ((fun k_ => (P0_ k_ ∨ w.heap.size ≤ k_))) k_ ∧ some k_ ≠ (u3 : Value).ownBlock) rfl rfl ?aO ?aR (fun _ hk => hk) ?aF ?aB ?aS ?aL ?_; (case aR => exact (by skip; exact Kd.V_F (Kd.V_mono (ok' := (fun k_ => ((fun k_ => (P0_ k_ ∨ w.heap.size ≤ k_))) k_ ∧ some k_ ≠ (u3 : Value).ownBlock)) (HO_0.out) (fun k_ hk => ⟨hk.1, hk.2⟩)))); (case aB => exact (by repeat (first | (with_reducible first | exact HB.out | apply below_alloc | apply pw_below_drewN | apply below_drew1) | exact HB.out))); (case aF => exact (fun k_ hk => (.inr (Nat.le_trans (below_size (by repeat (first | (with_reducible first | exact HB.out | apply below_alloc | apply pw_below_drewN | apply below_drew1) | exact HB.out))) hk)))); (case aO => exact (by (with_reducible repeat (first | apply Kd.N_alloc | apply Kd.N_drewN | apply Kd.N_drew)); exact HO_3.out)); (case aS => exact (below_size (by repeat (first | (with_reducible first | exact HB.out | apply below_alloc | apply pw_below_drewN | apply below_drew1) | exact HB.out)))); (case aL => have := LMc7.out; omega); intro v360 w8 ho hb hg hat; rw [← Ny359.out] at ho; have n0_ := Aside0.mk (Kd.V_afterv (ok := (fun k_ => (P0_ k_ ∨ w.heap.size ≤ k_))) (by (with_reducible repeat (first | apply Kd.V_alloc | apply Kd.V_drewN | apply Kd.V_drew)); exact HO_0.out) hg hat); have n1_ := Aside0.mk (hb); have n2_ := Aside0.mk (ho); clear HO_0; clear HB; clear HO_3; have HO_0 := n0_; have HB := n1_; have HO361 := n2_; clear n0_ n1_ n2_; clear ho hb hg hat))
          go_ret
          exact ⟨_, by first | rfl | (simp [errW_none, errW_some] <;> rfl) | (simp [*, errW_none, errW_some] <;> rfl), by (with_reducible repeat (first | apply Kd.N_alloc | apply Kd.N_drewN | apply Kd.N_drew)); exact HO361.out, by repeat (first | (with_reducible first | exact HB.out | apply below_alloc | apply pw_below_drewN | apply below_drew1) | exact HB.out)⟩
        · rw [if_neg c7] at H
          exact absurd H (by simp)
def slices_Index_string_string.l0 : Nat → List ByteArray → ByteArray → Int → Int → Option (Int)
  | 0, _, _, _, _ => none
  | k + 1, x0, x1, x7, x8 => if x8 < x7 then (if 0 ≤ x8 then (if x8 < (x0.length : Int) then (if x1.toList = (rdOf ByteArray.empty x0 x8).toList then (some x8) else (slices_Index_string_string.l0 k x0 x1 x7 (wrap64 (x8 + 1)))) else (none)) else (none)) else (some (-1))
def slices_Index_string_string.f (k : Nat) (l0 : List ByteArray) (a1 : ByteArray) : Option (Int) := slices_Index_string_string.l0 k l0 a1 (l0.length : Int) 0
set_option maxHeartbeats 8000000 in
set_option maxRecDepth 100000 in
theorem slices_Index_string_string.calls (k : Nat) (A0 : Option Addr) (c0 : Nat) (l0 : List ByteArray) (a1 : ByteArray) (r : Int) (w : World) (hr0 : Kd.C Kd.string w A0 l0.length l0) (hc0 : l0.length ≤ c0) (h : slices_Index_string_string.f k l0 a1 = some r) :
    Calls Tryz.prog 84 #[.slice A0 l0.length c0, .string a1] w fun e w' => e = .returned (.int .i64 r) ∧ Drawn0 w w' := by
  have HR0 := Aside0.mk hr0
  have HC0 := Aside0.mk hc0
  clear hr0 hc0
  have H : (slices_Index_string_string.l0 k l0 a1 (l0.length : Int) 0) = some r := h
  clear h
  have H' := Aside0.mk H
  clear H
  go_enter Tryz.func84, Tryz.ntmps84
  go_wp2
  go_loopg [8] k (fun kq v8 w' => ∃ (x8_1 : Int), v8 = .int .i64 x8_1 ∧ Aside0 (slices_Index_string_string.l0 kq l0 a1 (l0.length : Int) x8_1 = some r) ∧ Aside0 (kq ≤ k) ∧ Drawn0 w w')
  case atStart => exact ⟨(0), (by first | rfl | (simp; done) | (simp [*]; done)), H', ⟨Nat.le_refl _⟩, by repeat (first | exact Drawn0.refl _ | apply Drawn0.step)⟩
  case round =>
    clear H'
    try clear p2
    obtain ⟨x8_1, rfl, HA, HK1, ⟨m1, rfl⟩⟩ := hrel
    cases gk with
    | zero => exact absurd HA.out (by simp [slices_Index_string_string.l0])
    | succ k1 =>
      have H := HA.out
      clear HA
      simp only [slices_Index_string_string.l0] at H
      by_cases c3 : x8_1 < (l0.length : Int)
      · rw [if_pos c3] at H
        have c3b0 : decide (x8_1 < (l0.length : Int)) = true := decide_eq_true c3
        clear c3
        by_cases c4 : 0 ≤ x8_1
        · rw [if_pos c4] at H
          have c4b0 : decide (0 ≤ x8_1) = true := decide_eq_true c4
          clear c4
          by_cases c5 : x8_1 < (l0.length : Int)
          · rw [if_pos c5] at H
            have c5b0 : decide (x8_1 < (l0.length : Int)) = true := decide_eq_true c5
            clear c5
            by_cases c6 : a1.toList = (rdOf ByteArray.empty l0 x8_1).toList
            · rw [if_pos c6] at H
              have c6b0 : (a1.toList == (rdOf ByteArray.empty l0 x8_1).toList) = true := beq_iff_eq.mpr c6
              have c6b1 : (a1.toList != (rdOf ByteArray.empty l0 x8_1).toList) = false := bne_eq_false_iff_eq.mpr c6
              clear c6
              obtain rfl := Option.some.inj H
              have p405 : 0 ≤ (x8_1 : Int) := of_decide_eq_true (by first | (with_reducible assumption) | assumption)
              have q405 : x8_1 < (l0.length : Int) := of_decide_eq_true (by first | (with_reducible assumption) | assumption)
              obtain ⟨ad405, e405, hx405_0⟩ := Kd.at_string HR0.out x8_1 p405 q405
              cases e405
              replace p405 := eq_true p405
              replace q405 := eq_true q405
              go_wp2
              go_ret
              exact ⟨by first | rfl | (simp; done) | (simp [*]; done), by repeat (first | exact Drawn0.refl _ | apply Drawn0.step)⟩
            · rw [if_neg c6] at H
              have c6b0 : (a1.toList == (rdOf ByteArray.empty l0 x8_1).toList) = false := beq_eq_false_iff_ne.mpr c6
              have c6b1 : (a1.toList != (rdOf ByteArray.empty l0 x8_1).toList) = true := bne_iff_ne.mpr c6
              have H' := Aside0.mk H
              clear H
              have p405 : 0 ≤ (x8_1 : Int) := of_decide_eq_true (by first | (with_reducible assumption) | assumption)
              have q405 : x8_1 < (l0.length : Int) := of_decide_eq_true (by first | (with_reducible assumption) | assumption)
              obtain ⟨ad405, e405, hx405_0⟩ := Kd.at_string HR0.out x8_1 p405 q405
              cases e405
              replace p405 := eq_true p405
              replace q405 := eq_true q405
              go_wp2
              go_roundg k1
              case measure => have := HK1.out; omega
              case rel => exact ⟨(wrap64 (x8_1 + 1)), (by first | rfl | (simp; done) | (simp [*]; done)), H', ⟨by have := HK1.out; omega⟩, by repeat (first | exact Drawn0.refl _ | apply Drawn0.step)⟩
          · rw [if_neg c5] at H
            exact absurd H (by simp)
        · rw [if_neg c4] at H
          exact absurd H (by simp)
      · rw [if_neg c3] at H
        have c3b0 : decide (x8_1 < (l0.length : Int)) = false := decide_eq_false c3
        clear c3
        obtain rfl := Option.some.inj H
        go_wp2
        go_ret
        exact ⟨by first | rfl | (simp; done) | (simp [*]; done), by repeat (first | exact Drawn0.refl _ | apply Drawn0.step)⟩
def slices_Contains_string_string.f (k : Nat) (l0 : List ByteArray) (a1 : ByteArray) : Option (Bool) := (slices_Index_string_string.f k l0 a1).bind fun t406 => (some (decide (t406 ≥ 0)))
set_option maxHeartbeats 8000000 in
set_option maxRecDepth 100000 in
theorem slices_Contains_string_string.calls (k : Nat) (A0 : Option Addr) (c0 : Nat) (l0 : List ByteArray) (a1 : ByteArray) (r : Bool) (w : World) (hr0 : Kd.C Kd.string w A0 l0.length l0) (hc0 : l0.length ≤ c0) (h : slices_Contains_string_string.f k l0 a1 = some r) :
    Calls Tryz.prog 58 #[.slice A0 l0.length c0, .string a1] w fun e w' => e = .returned (.bool r) ∧ Drawn0 w w' := by
  have HR0 := Aside0.mk hr0
  have HC0 := Aside0.mk hc0
  clear hr0 hc0
  have H : ((slices_Index_string_string.f k l0 a1).bind fun t406 => (some (decide (t406 ≥ 0)))) = some r := h
  clear h
  replace H := Option.bind_eq_some_iff.mp H
  obtain ⟨t406, A30, H⟩ := H
  replace H : (some (decide (t406 ≥ 0))) = some r := H
  have A3 := Aside0.mk A30
  clear A30
  obtain rfl := Option.some.inj H
  go_enter Tryz.func58, Tryz.ntmps58
  go_wp2_with (first | ((with_reducible refine gate_callee (f := 84) rfl ?_); refine goesL_ (some 7) rfl rfl Tryz.func84 (by kernel_rfl) rfl #[.slice A0 l0.length c0, .string a1] rfl (by (try simp only [List.map_toArray, List.map_cons, List.map_nil]); first | done | rfl | (simp only [List.length_drop, List.length_take]; rfl)) ?_; (with_reducible refine (slices_Index_string_string.calls k _ _ l0 a1 t406 _ ?side1 ?side2 A3.out).mono ?_); (case side1 => repeat (first | exact HR0.out | (with_reducible refine Kd.C_alloc ?_ _) | (with_reducible refine Kd.C_drewN ?_ _) | (with_reducible refine Kd.C_drew ?_))); (case side2 => exact HC0.out); rintro e w' ⟨rfl, ⟨nd, rfl⟩⟩; refine ⟨_, rfl, ?_⟩))
  go_ret
  exact ⟨by first | rfl | (simp; done) | (simp [*]; done), by repeat (first | exact Drawn0.refl _ | apply Drawn0.step)⟩
mutual
def sutlerref03_Name.j0 : Nat → ByteArray → Bool → Option (Bool)
  | 0, _, _ => none
  | k + 1, x0, x22 => if x22 = true then (some false) else (sutlerref03_Name.l0 k x0 0)
def sutlerref03_Name.l0 : Nat → ByteArray → Int → Option (Bool)
  | 0, _, _ => none
  | k + 1, x0, x3 => if x3 < (x0.size : Int) then (if 0 ≤ x3 then (if (bt x0 x3) < 97 then (if (bt x0 x3) < 48 then (if (bt x0 x3) = 46 then (sutlerref03_Name.l0 k x0 (wrap64 (x3 + 1))) else (if (bt x0 x3) = 45 then (sutlerref03_Name.l0 k x0 (wrap64 (x3 + 1))) else (some false))) else (if (bt x0 x3) > 57 then (if (bt x0 x3) = 46 then (sutlerref03_Name.l0 k x0 (wrap64 (x3 + 1))) else (if (bt x0 x3) = 45 then (sutlerref03_Name.l0 k x0 (wrap64 (x3 + 1))) else (some false))) else (sutlerref03_Name.l0 k x0 (wrap64 (x3 + 1))))) else (if (bt x0 x3) > 122 then (if (bt x0 x3) < 48 then (if (bt x0 x3) = 46 then (sutlerref03_Name.l0 k x0 (wrap64 (x3 + 1))) else (if (bt x0 x3) = 45 then (sutlerref03_Name.l0 k x0 (wrap64 (x3 + 1))) else (some false))) else (if (bt x0 x3) > 57 then (if (bt x0 x3) = 46 then (sutlerref03_Name.l0 k x0 (wrap64 (x3 + 1))) else (if (bt x0 x3) = 45 then (sutlerref03_Name.l0 k x0 (wrap64 (x3 + 1))) else (some false))) else (sutlerref03_Name.l0 k x0 (wrap64 (x3 + 1))))) else (sutlerref03_Name.l0 k x0 (wrap64 (x3 + 1))))) else (none)) else (some true)
end
end Go.Proofs.YtblfbdlhphhfnaaGreatDoor.PA
