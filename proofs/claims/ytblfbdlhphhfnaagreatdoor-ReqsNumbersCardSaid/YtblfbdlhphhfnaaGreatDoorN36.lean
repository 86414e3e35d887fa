import Derived.Test.YtblfbdlhphhfnaaGreatDoorN35
import Derived.Shelf.Spec.SlicesGrow
import Derived.Ground.Names8Prog
import Derived.Test.YtblfbdlhphhfnaaGreatDoorProg
namespace Go.Proofs
open Go.Shelf
def Tryz.growRLay_ren : Go.Shelf.Ren := ⟨fun | 4 => 56 | n => n, fun | 22 => 22 | 25 => 25 | 3 => 3 | 4 => 4 | 9 => 9 | 20 => 20 | 0 => 0 | n => n, fun | n => n⟩
theorem Tryz.growRLay : Go.Proofs.Lays8.n4 Tryz.prog Tryz.growRLay_ren := {
  mixed := by kernel_rfl
  f4 := ⟨Tryz.f56.name, by decide, Tryz.func56.trans (congrArg some (by kernel_rfl))⟩
  t0 := Tryz.underlying0
  a0 := Tryz.isAgg0
  z0 := Tryz.sizeOf0
  v0 := Tryz.zeroValue0
  t3 := Tryz.underlying3
  a3 := Tryz.isAgg3
  z3 := Tryz.sizeOf3
  v3 := Tryz.zeroValue3
  t4 := Tryz.underlying4
  a4 := Tryz.isAgg4
  z4 := Tryz.sizeOf4
  v4 := Tryz.zeroValue4
  t9 := Tryz.underlying9
  a9 := Tryz.isAgg9
  z9 := Tryz.sizeOf9
  v9 := Tryz.zeroValue9
  t20 := Tryz.underlying20
  a20 := Tryz.isAgg20
  z20 := Tryz.sizeOf20
  v20 := Tryz.zeroValue20
  t22 := Tryz.underlying22
  a22 := Tryz.isAgg22
  z22 := Tryz.sizeOf22
  v22 := Tryz.zeroValue22 }
end Go.Proofs
namespace Go.Proofs.YtblfbdlhphhfnaaGreatDoor.PA
open Go.RowKit Go.Maps Go.Sort Go.Shelf Go.Proofs.YtblfbdlhphhfnaaGreatDoorW.PrintWords Go.Proofs.YtblfbdlhphhfnaaGreatDoorW.PrintLast
set_option linter.unusedVariables false
set_option linter.unusedSimpArgs false
theorem fixed_reads {w0 w : World} {A : Option Addr} {n : Nat} {xs : List S25} (h : (Kd.fixed k25 w0).C w A n xs) (hb : Below w0.heap.size w0 w) : Kd.C k25 w A n xs :=
  ReadsRow.imp_ h (Below.refl _ _) (fun p c hp => k25.K_below hb hp)
set_option maxRecDepth 100000 in
theorem grow_walk (n : Nat) (w0 w : World) (hn : n ≤ 1000) : Calls Tryz.prog 56 #[.slice none 0 0, .int .i64 n] w fun e w' => ∃ v, e = .returned v ∧ (Kd.fixed k25 w0).R 25 w' w.heap.size (fun _ => True) v [] ∧ Below w.heap.size w w' := by
  by_cases h0 : n = 0
  · subst h0
    refine (Any8.slices_Grow_room Tryz.growRLay none 0 0 0 w (Nat.le_refl _) (by omega) (by omega) (by omega)).mono ?_
    rintro e w' ⟨rfl, rfl⟩
    exact ⟨_, rfl, Kd.R_nil _ _ _ _ _, Below.refl _ _⟩
  · obtain ⟨i0, hi, hz⟩ := Option.map_eq_some_iff.1 info25
    simp only [Prod.mk.injEq] at hz
    obtain ⟨hz0, hz1, hz2⟩ := hz
    refine (Any8.slices_Grow_grow Tryz.growRLay i0 _ hi hz0 (by rw [hz1]; omega) none 0 0 n [] w (Nat.le_refl _) (by omega) (by rw [hz2]; omega) (by omega) (by simp) (fun _ => rfl) (fun a h => by cases h)).mono ?_
    rintro e w' ⟨rfl, rfl⟩
    have hge : 0 + n ≤ grownCap w (0 + n) 0 25 := grownCap_ge w _ _ _
    have hle := grownCap_le_maxLen w (0 + n) 0 25 (by unfold maxLen; omega)
    change 0 + n ≤ grownCap w (0 + n) 0 (Tryz.growRLay_ren.t 25) at hge
    change grownCap w (0 + n) 0 (Tryz.growRLay_ren.t 25) ≤ maxLen at hle
    generalize grownCap w (0 + n) 0 (Tryz.growRLay_ren.t 25) = G at hge hle ⊢
    refine ⟨_, rfl, ⟨fun _ _ => trivial, [], ⟨rfl, .inr ⟨w.heap.size, G, _, rfl, Nat.le_refl _, (heap_alloc_new _ _ : _), Nat.zero_le _, hle, ?_, ?_⟩⟩, Reps.none _ _⟩, (below_drew (Below.refl _ _)).alloc (Nat.le_refl _) _⟩
    · show _ = G * 4
      simp only [Array.size_append, size_zeroCells, List.size_toArray, List.length_nil, Value.cells]
      simp
      omega
    · show List.take (0 * k25.sz) _ = []
      rw [Nat.zero_mul]; rfl
set_option maxHeartbeats 4000000 in
set_option maxRecDepth 100000 in
theorem concat_walk {g t : Nat} {A B : Option Addr} {ca cb : Nat} {a b : List S25} (w : World) (h : w.heap[g]? = some (.cells #[.slice A a.length ca, .slice B b.length cb] t (0, 0))) (hrA : Kd.C k25 w A a.length a) (hrB : Kd.C k25 w B b.length b) (ha : a.length ≤ 400) (hb : b.length ≤ 400) :
    Calls Tryz.prog 38 #[.slice (some ⟨g, 0, none⟩) 2 2] w fun e w' => ∃ A' c', e = .returned (.slice A' (a ++ b).length c') ∧ (a ++ b).length ≤ c' ∧ Kd.C k25 w' A' (a ++ b).length (a ++ b) ∧ Below w.heap.size w w' := by
  have HA := Lib.hid hrA; clear hrA
  have HB := Lib.hid hrB; clear hrB
  have c0 : w.cell? ⟨g, 0, none⟩ = some (.slice A a.length ca) := (blk_cell h 0).trans rfl
  have c1 : w.cell? ⟨g, 1, none⟩ = some (.slice B b.length cb) := (blk_cell h 1).trans rfl
  have hgl : g < w.heap.size := blk_lt h
  have hH := Lib.hid h; clear h
  go_enter Tryz.func38, Tryz.ntmps38
  go_wp2_with fail
  go_loop [3, 11] (fun s i => ∃ k : Nat, k ≤ 2 ∧ i = .int .i64 k ∧ s = .int .i64 (if k = 0 then 0 else if k = 1 then (a.length : Int) else (a.length : Int) + b.length)) (fun _ i => 2 - (intOf i).toNat)
  case atStart => exact ⟨0, by omega, rfl, rfl⟩
  case round =>
    obtain ⟨k, hk, rfl, rfl⟩ := hrel
    have hk3 : k = 0 ∨ k = 1 ∨ k = 2 := by omega
    rcases hk3 with rfl | rfl | rfl
    · simp only [if_true]
      go_wp2_with fail
      go_round
      case rel => exact ⟨1, by omega, by first | rfl | go_num, by first | rfl | simp⟩
      case measure => simp [intOf]
    · simp only [show ¬ (1 : Nat) = 0 by omega, if_false, if_true]
      go_wp2_with fail
      go_round
      case rel => exact ⟨2, by omega, by first | rfl | go_num, by first | rfl | simp⟩
      case measure => simp [intOf]
    · simp only [show ¬ (2 : Nat) = 0 by omega, show ¬ (2 : Nat) = 1 by omega, if_false]
      have hgr := grow_walk (a.length + b.length) w w (by omega)
      rw [Int.natCast_add] at hgr
      go_wp2_with (first | (go_at_call 56; refine hgr.mono ?_; rintro e w1 ⟨v1, rfl, hR1, hb1⟩))
      have hSZ : 0 < (Kd.fixed k25 w).sz := (by decide : 0 < 4)
      go_loopw [6, 27] (fun v i wr => ∃ k : Nat, k ≤ 2 ∧ i = .int .i64 k ∧ (Kd.fixed k25 w).R 25 wr w.heap.size (fun _ => True) v (if k = 0 then [] else if k = 1 then a else a ++ b) ∧ Below w.heap.size w wr) (fun _ i _ => 2 - (intOf i).toNat)
      case atStart => exact ⟨0, by omega, rfl, hR1, hb1⟩
      case round =>
        clear hR1 hb1
        obtain ⟨k, hk, rfl, hR, hbr⟩ := hrel
        have hk3 : k = 0 ∨ k = 1 ∨ k = 2 := by omega
        rcases hk3 with rfl | rfl | rfl
        · rw [if_pos rfl] at hR
          have c0' := pw_cell_below hbr c0
          have hRR : ReadsRow (k25.K w) 4 wr A a.length a := ReadsRow.imp_ HA.out hbr (fun _ _ hp => hp)
          go_wp2_with (first
            | (at_builtin; refine Kd.R_append_rows (Kd.fixed k25 w) (Rr := k25.K w) (w0 := w) w.heap.size rfl _ _ 22 25 (.agg #[(.string ⟨#[]⟩), (.int .i64 0), (.slice none 0 0), (.int .i64 0)]) 56 rfl Tryz.underlying22 info25 rfl hSZ (by omega) u6 [] a A a.length ca (fun _ => True) (fun _ => False) rfl rfl hR hRR (fun _ _ hk => hk) (fun _ hk => hk.elim) (fun _ _ => trivial) hbr hbr.size (by first | omega | (simp; omega)) ?_; intro v7 w7 hR7 hb7 hg7 hat7))
          go_roundw
          case rel => exact ⟨1, by omega, by first | rfl | go_num, by simpa using hR7, hb7⟩
          case measure => simp [intOf]
        · rw [if_neg (by omega), if_pos rfl] at hR
          have c1' := pw_cell_below hbr c1
          have hRR : ReadsRow (k25.K w) 4 wr B b.length b := ReadsRow.imp_ HB.out hbr (fun _ _ hp => hp)
          go_wp2_with (first
            | (at_builtin; refine Kd.R_append_rows (Kd.fixed k25 w) (Rr := k25.K w) (w0 := w) w.heap.size rfl _ _ 22 25 (.agg #[(.string ⟨#[]⟩), (.int .i64 0), (.slice none 0 0), (.int .i64 0)]) 56 rfl Tryz.underlying22 info25 rfl hSZ (by omega) u6 a b B b.length cb (fun _ => True) (fun _ => False) rfl rfl hR hRR (fun _ _ hk => hk) (fun _ hk => hk.elim) (fun _ _ => trivial) hbr hbr.size (by first | omega | (simp; omega)) ?_; intro v7 w7 hR7 hb7 hg7 hat7))
          go_roundw
          case rel => exact ⟨2, by omega, by first | rfl | go_num, by simpa using hR7, hb7⟩
          case measure => simp [intOf]
        · rw [if_neg (by omega), if_neg (by omega)] at hR
          obtain ⟨A', c', rfl, hc', hC⟩ := Kd.R_reads hR
          have hC2 := fixed_reads hC hbr
          clear hR hC
          go_wp2_with fail
          go_ret
          exact ⟨A', c', rfl, hc', hC2, hbr⟩
theorem check_f (l : List S25) (hs : SmallR l) : reqs_Check.f (l.length + 1) l = some (setsP l 8).2 := by
  unfold reqs_Check.f
  rw [sets_f l hs 8 (by omega)]; rfl
def meetsP (a b : List S25) : Bool × Int :=
  if (setsP a 8).2 = 0 then (if (setsP b 8).2 = 0 then canP (a ++ b) else (false, (setsP b 8).2)) else (false, (setsP a 8).2)
set_option maxHeartbeats 1000000 in
set_option maxRecDepth 100000 in
theorem meets_walk (A : Option Addr) (ca : Nat) (a : List S25) (B : Option Addr) (cb : Nat) (b : List S25) (w : World) (hrA : Kd.C k25 w A a.length a) (hca : a.length ≤ ca) (hrB : Kd.C k25 w B b.length b) (hcb : b.length ≤ cb) (hG : GL w) (hsa : SmallR a) (hsb : SmallR b) :
    Calls Tryz.prog 17 #[.slice A a.length ca, .slice B b.length cb] w fun e w' => e = .returned (.tuple #[.bool (meetsP a b).1, .int .i64 (meetsP a b).2]) ∧ Below w.heap.size w w' := by
  have hA := reqs_Check.calls (a.length + 1) A ca a (setsP a 8).2 w hrA hca hG (check_f a hsa)
  have hB := fun W (hW : Below w.heap.size w W) => reqs_Check.calls (b.length + 1) B cb b (setsP b 8).2 W (Kd.C_below hrB hW) hcb (GL.of_below hG hW) (check_f b hsb)
  have hab : SmallR (a ++ b) := fun r hr => by
    rcases List.mem_append.1 hr with h | h
    · exact hsa r h
    · exact hsb r h
  have hP : Hid (meetsP a b = if (setsP a 8).2 = 0 then (if (setsP b 8).2 = 0 then canP (a ++ b) else (false, (setsP b 8).2)) else (false, (setsP a 8).2)) := Lib.hid rfl
  have h16a := fun h => (setsP_ok (l := a) (most := 8) h).1
  have h16b := fun h => (setsP_ok (l := b) (most := 8) h).1
  obtain ⟨EA, hEA⟩ : ∃ E, (setsP a 8).2 = E := ⟨_, rfl⟩
  obtain ⟨EB, hEB⟩ : ∃ E, (setsP b 8).2 = E := ⟨_, rfl⟩
  rw [hEA] at hA hP h16a
  rw [hEB] at hB hP h16b
  clear hEA hEB hsa hsb
  have HRA := Lib.hid hrA; clear hrA
  have HRB := Lib.hid hrB; clear hrB
  have HAB := Lib.hid hab; clear hab
  by_cases hA0 : EA = 0
  · subst hA0
    by_cases hB0 : EB = 0
    · subst hB0
      have ha8 := h16a rfl
      have hb8 := h16b rfl
      clear h16a h16b
      obtain ⟨p, hp⟩ : ∃ p, canP (a ++ b) = p := ⟨_, rfl⟩
      rw [if_pos rfl, if_pos rfl, hp] at hP
      have hcan := fun (A' : Option Addr) (c' : Nat) (W : World) (h1 : Kd.C k25 W A' (a ++ b).length (a ++ b)) (h2 : (a ++ b).length ≤ c') (h3 : GL W) => can_walk A' c' (a ++ b) W h1 h2 h3 HAB.out
      rw [hp] at hcan
      have hconc := fun (W : World) (o1 : Array Value) (t : TypeId) (hb : Below w.heap.size w (W.alloc (.cells #[.slice A a.length ca, .slice B b.length cb] t))) => concat_walk (W.alloc (.cells #[.slice A a.length ca, .slice B b.length cb] t)) (heap_alloc_new _ _) (Kd.C_below HRA.out hb) (Kd.C_below HRB.out hb) (by omega) (by omega)
      obtain ⟨m, hm⟩ : ∃ m, a ++ b = m := ⟨_, rfl⟩
      rw [hm] at hcan hconc
      have HC := Lib.hid hcan
      have HN := Lib.hid hconc
      clear hcan hp hconc hm
      obtain ⟨p1, p2⟩ := p
      go_enter Tryz.func17, Tryz.ntmps17
      have tok1 : True := trivial
      go_wp2_with (first
        | (go_at_call 11; have _t := tok1; refine hA.mono ?_; rintro e w1 ⟨rfl, hb1⟩; clear tok1)
        | (go_at_call 11; refine (hB w1 hb1).mono ?_; rintro e w2 ⟨rfl, hb2⟩; have hb2' := below_then hb1 hb1.size hb2)
        | (go_at_call 38; refine (HN.out w2 #[] _ (hb2'.alloc hb2'.size _)).mono ?_; rintro e w3 ⟨A', c', rfl, hc', hC', hb3⟩; have hb3' := below_then (hb2'.alloc hb2'.size _) (hb2'.alloc hb2'.size _).size hb3)
        | (go_at_call 15; refine (HC.out A' c' _ hC' hc' (GL.of_below hG hb3')).mono ?_; rintro e w4 ⟨rfl, hb4⟩))
      go_ret2
      rw [hP.out]
      exact ⟨rfl, below_then hb3' hb3'.size hb4⟩
    · have hq : (EB != 0) = true := by simpa using hB0
      rw [if_pos rfl, if_neg hB0] at hP
      clear h16a h16b hB0
      go_enter Tryz.func17, Tryz.ntmps17
      have tok1 : True := trivial
      go_wp2_with (first
        | (go_at_call 11; have _t := tok1; refine hA.mono ?_; rintro e w1 ⟨rfl, hb1⟩; clear tok1)
        | (go_at_call 11; refine (hB w1 hb1).mono ?_; rintro e w2 ⟨rfl, hb2⟩))
      go_ret2
      rw [hP.out]
      exact ⟨rfl, below_then hb1 hb1.size hb2⟩
  · have hq : (EA != 0) = true := by simpa using hA0
    rw [if_neg hA0] at hP
    clear h16a h16b hA0
    go_enter Tryz.func17, Tryz.ntmps17
    go_wp2_with (first
        | (go_at_call 11; refine hA.mono ?_; rintro e w1 ⟨rfl, hb1⟩))
    go_ret2
    rw [hP.out]
    exact ⟨rfl, hb1⟩
def reqs_Meets.f (l0 l1 : List S25) : Option (Bool × Int) := if smallRB l0 = true ∧ smallRB l1 = true then some (meetsP l0 l1) else none
theorem reqs_Meets.calls (A0 : Option Addr) (c0 : Nat) (l0 : List S25) (A1 : Option Addr) (c1 : Nat) (l1 : List S25) (r1 : Bool) (r2 : Int) (w : World) (hr0 : Kd.C k25 w A0 l0.length l0) (hc0 : l0.length ≤ c0) (hr1 : Kd.C k25 w A1 l1.length l1) (hc1 : l1.length ≤ c1) (hG : GL w) (h : reqs_Meets.f l0 l1 = some (r1, r2)) :
    Calls Tryz.prog 17 #[.slice A0 l0.length c0, .slice A1 l1.length c1] w fun e w' => e = .returned (.tuple #[.bool r1, .int .i64 r2]) ∧ Below w.heap.size w w' := by
  unfold reqs_Meets.f at h
  by_cases hs : smallRB l0 = true ∧ smallRB l1 = true
  · rw [if_pos hs] at h
    have h3 := meets_walk A0 c0 l0 A1 c1 l1 w hr0 hc0 hr1 hc1 hG ((smallRB_iff _).1 hs.1) ((smallRB_iff _).1 hs.2)
    rw [Option.some.inj h] at h3
    exact h3
  · rw [if_neg hs] at h; cases h
end Go.Proofs.YtblfbdlhphhfnaaGreatDoor.PA
