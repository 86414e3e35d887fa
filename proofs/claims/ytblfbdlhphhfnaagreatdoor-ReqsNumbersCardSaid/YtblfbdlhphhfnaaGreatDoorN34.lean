import Derived.Test.YtblfbdlhphhfnaaGreatDoorN31
import Derived.Test.YtblfbdlhphhfnaaGreatDoorN33
import Derived.Maps.Ext
namespace Go.Proofs.YtblfbdlhphhfnaaGreatDoor.PA
open Go.RowKit Go.Maps Go.Sort Go.Shelf Go.Proofs.YtblfbdlhphhfnaaGreatDoorW.PrintWords Go.Proofs.YtblfbdlhphhfnaaGreatDoorW.PrintLast
set_option linter.unusedVariables false
set_option linter.unusedSimpArgs false
/-- What is known at each round's head. -/
def SetsRel (l : List S25) (all : List S42) (f : Nat → Nat) (w1 : World) (base bm k : Nat) (KS : List S44) (wr : World) : Prop :=
  KMap wr bm k base (fun q => (f q < k ∧ q < w1.heap.size) ∨ w1.heap.size ≤ q) KS ∧ SortedK KS ∧ SmallK KS ∧ KS.length ≤ k ∧ keysP l all [] = keysP (l.drop k) (all.drop k) KS ∧ Below w1.heap.size w1 wr
section
variable {l : List S25} {all : List S42} {f : Nat → Nat} {w1 wr W4 : World} {base bm k : Nat} {KS : List S44} {key : ByteArray} {s x : S42}
theorem keys_at (hlt : k < l.length) (hln : all.length = l.length) (es : s = rd_T42 all k) (ek : key = (rd_T25 l k).f0) :
    keysP (l.drop k) (all.drop k) KS = match findK KS key with
      | some was => if (meetP (sP was) (sP s)).2 = 0 then keysP (l.drop (k + 1)) (all.drop (k + 1)) (putK KS key (pS (meetP (sP was) (sP s)).1)) else ([], (meetP (sP was) (sP s)).2)
      | none => keysP (l.drop (k + 1)) (all.drop (k + 1)) (putK KS key s) := by
  have hk2 : k < all.length := by omega
  have e1 : rd_T42 all k = all[k] := by simp [rd_T42, List.getD_eq_getElem?_getD, List.getElem?_eq_getElem hk2]
  have e2 : rd_T25 l k = l[k] := by simp [rd_T25, List.getD_eq_getElem?_getD, List.getElem?_eq_getElem hlt]
  rw [List.drop_eq_getElem_cons hlt, List.drop_eq_getElem_cons hk2, keysP, es, ek, e1, e2]
  cases findK KS l[k].f0 <;> rfl
theorem rel_new (h : SetsRel l all f w1 base bm k KS wr) (hlt : k < l.length) (hln : all.length = l.length) (hsv : ∀ x ∈ all, SmallV x.f3) (es : s = rd_T42 all k) (ek : key = (rd_T25 l k).f0) (hf : findK KS key = none)
    (hM : KMap W4 bm (k + 1) base (fun q => ((f q < k ∧ q < w1.heap.size) ∨ w1.heap.size ≤ q) ∨ (f q = k ∧ q < w1.heap.size)) (putK KS key s)) (hb : Below w1.heap.size w1 W4) : SetsRel l all f w1 base bm (k + 1) (putK KS key s) W4 := by
  obtain ⟨_, h2, h3, h4, h5, _⟩ := h
  refine ⟨hM.mono (fun q hq => by rcases hq with (⟨h1, h2⟩ | h1) | ⟨h1, h2⟩ <;> omega), sortedK_put h2 key s, smallK_put h3 key (hsv s (mem_rd (by omega) es)), by have := length_putK KS key s; omega, ?_, hb⟩
  rw [h5, keys_at hlt hln es ek, hf]
theorem rel_meet {p : PSet} (h : SetsRel l all f w1 base bm k KS wr) (hlt : k < l.length) (hln : all.length = l.length) (hsv : ∀ x ∈ all, SmallV x.f3) (es : s = rd_T42 all k) (ek : key = (rd_T25 l k).f0) (hf : findK KS key = some x) (hp : meetP (sP x) (sP s) = (p, 0)) {ws wt : Nat} (hws : w1.heap.size ≤ wt)
    (hM : KMap W4 bm (k + 1) base (fun q => (((f q < k ∧ q < w1.heap.size) ∨ w1.heap.size ≤ q) ∧ q < ws) ∨ wt ≤ q) (putK KS key (pS p))) (hb : Below w1.heap.size w1 W4) : SetsRel l all f w1 base bm (k + 1) (putK KS key (pS p)) W4 := by
  obtain ⟨_, h2, h3, h4, h5, _⟩ := h
  have hsm : SmallV (meetP (sP x) (sP s)).1.vals := meetP_small (h3 _ (findK_some hf)) (hsv s (mem_rd (by omega) es))
  rw [hp] at hsm
  refine ⟨hM.mono (fun q hq => by rcases hq with ⟨⟨h1, h2⟩ | h1, _⟩ | h1 <;> omega), sortedK_put h2 key _, smallK_put h3 key hsm, by have := length_putK KS key (pS p); omega, ?_, hb⟩
  rw [h5, keys_at hlt hln es ek, hf]
  dsimp only
  rw [hp, if_pos rfl]
theorem rel_err {p : PSet} {pe : Int} (h : SetsRel l all f w1 base bm k KS wr) (hlt : k < l.length) (hln : all.length = l.length) (es : s = rd_T42 all k) (ek : key = (rd_T25 l k).f0) (hf : findK KS key = some x) (hp : meetP (sP x) (sP s) = (p, pe)) (h0 : pe ≠ 0) : keysP l all [] = ([], pe) := by
  obtain ⟨_, h2, h3, h4, h5, _⟩ := h
  rw [h5, keys_at hlt hln es ek, hf]
  dsimp only
  rw [hp, if_neg h0]
end
theorem info44b : (Tryz.prog.info? 44).map (fun i => (i.zero, i.size, i.bytes)) = some (some (.agg #[(.string ⟨#[]⟩), (.bool false), (.bool false), (.bool false), (.slice none 0 0), (.int .i64 0), (.int .i64 0)]), 7, 64) := by kernel_rfl
/-- What is known at each round's head of the range. -/
def RngRel (KS : List S44) (Am : ByteArray → Option Value) (g : Nat → ByteArray) (D : DataW Value) (w : World) (bm r n : Nat) (v : Value) (wr : World) : Prop :=
  ∃ (L : List S44) (left : Lit → Bool) (cnt : Nat), wr.ranges Tryz.prog 9 setElem bm r n D left cnt ∧ (tagK g).R 44 wr w.heap.size (fun _ => True) v L ∧ (L.map (·.f0)).Nodup ∧ (∀ x, x ∈ L ↔ x ∈ KS ∧ left (.string x.f0.data.toList) = false) ∧ KEl wr w.heap.size (fun _ => True) KS Am g ∧ Below w.heap.size w wr
theorem rng_len {KS : List S44} {L : List S44} (hn : (L.map (·.f0)).Nodup) (h : ∀ x ∈ L, x ∈ KS) (hk : KS.length ≤ 16) : L.length ≤ 16 := by
  have hnd : L.Nodup := (List.pairwise_map.1 hn).imp fun {a b} h e => h (by rw [e])
  have : L.length ≤ KS.length := hnd.length_le_of_subset h
  omega
section
variable {KS : List S44} {Am : ByteArray → Option Value} {g : Nat → ByteArray} {D : DataW Value} {w wr : World} {bm r n : Nat}
theorem rng_start {cnt : Nat} (hrg : wr.ranges Tryz.prog 9 setElem bm r n D (Maps.has D) cnt) (hE : KEl wr w.heap.size (fun _ => True) KS Am g) (hb : Below w.heap.size w wr) (hi : VIs D Am) (hso : SortedK KS) : RngRel KS Am g D w bm r n (.slice none 0 0) wr := by
  refine ⟨[], _, _, hrg, Kd.R_nil _ _ _ _ _, by simp, fun x => ?_, hE, hb⟩
  constructor
  · intro h; cases h
  · rintro ⟨h1, h2⟩
    exfalso
    rw [hi.has] at h2
    have h4 : Am x.f0 = none := by cases h5 : Am x.f0 with
      | none => rfl
      | some _ => rw [h5] at h2; cases h2
    have h6 := (hE.1 x.f0).1 h4
    rw [findK_mem hso h1] at h6
    cases h6
/-- An entry has come: what it is. -/
theorem rng_entry {x : ByteArray} {c : Row6} {y : DataW Value × List MemPlace} (hE : KEl wr w.heap.size (fun _ => True) KS Am g) (hi : VIs D Am) (hv : setElem (mk6 c) = some y) (hat : ∀ zd, D.atKey (.string x.data.toList) zd = y.1) :
    ∃ s A3 c3, (⟨x, s⟩ : S44) ∈ KS ∧ c = ⟨s.f0, s.f1, s.f2, A3, s.f3.length, c3, s.f4, s.f5⟩ ∧ k42.M wr w.heap.size (fun k => g k = x) s (cells6 c) := by
  have hy := setElem_exact _ _ hv
  have hh : Maps.has D (.string x.data.toList) = true := Maps.has_true_of_atKey hat
  rw [hi.has] at hh
  obtain ⟨v, hA⟩ := Option.isSome_iff_exists.1 hh
  have h1 := hi.val x v (.held v) hA
  rw [hat, hy] at h1
  have h2 : mk6 c = v := DataW.held.inj h1
  cases hf : findK KS x with
  | none => rw [(hE.1 x).2 hf] at hA; cases hA
  | some s =>
    obtain ⟨r', r1, r2⟩ := hE.2 _ (findK_some hf)
    have r1' : Am x = some (mk6 r') := r1
    rw [hA] at r1'
    have h3 : mk6 c = mk6 r' := h2.trans (Option.some.inj r1')
    have h4 : cells6 c = cells6 r' := by
      have := congrArg (fun v : Value => match v with | .agg cs => cs.toList | _ => []) h3
      exact this
    have r2' : k42.M wr w.heap.size (fun k => True ∧ g k = x) s (cells6 r') := r2
    rw [← h4] at r2'
    obtain ⟨A3, c3, he, _, _⟩ := k42_open (k42.K_of_M r2')
    refine ⟨s, A3, c3, findK_some hf, ?_, k42.M_mono (fun k hk => hk.2) r2'⟩
    obtain ⟨m, n, u, A, len, cap, lo, hi⟩ := c
    simp only [cells6, List.cons.injEq, Value.bool.injEq, Value.slice.injEq, Value.int.injEq, true_and, and_true] at he
    obtain ⟨rfl, rfl, rfl, ⟨rfl, rfl, rfl⟩, rfl, rfl⟩ := he
    rfl
theorem rng_iter {left : Lit → Bool} {cnt : Nat} (h : wr.ranges Tryz.prog 9 setElem bm r n D left cnt) : (∀ cells q, wr.heap[r]? ≠ some (.cells cells q (0, 0))) ∧ (∀ cells q, wr.heap[bm]? ≠ some (.cells cells q (0, 0))) := by
  obtain ⟨es, clock, since, seen, c0, hb, _, _, _, hr, _⟩ := h
  exact ⟨fun cells q e => (by rw [hr] at e; cases e), fun cells q e => (by rw [hb] at e; cases e)⟩
theorem R_kept {α : Type} {d : Kd α} {e : Nat} {w w' : World} {base : Nat} {ok : Nat → Prop} {v : Value} {xs : List α} {row : Option Nat} (h : d.R e w base ok v xs) (hg : w.grownBy w' row) (hrow : ∀ k, row = some k → ∀ cells q, w.heap[k]? ≠ some (.cells cells q (0, 0))) : d.R e w' base ok v xs :=
  Kd.R_mono (Kd.R_move (Kd.R_bound h) (fun k hk => by
    obtain ⟨_, _, h3, q, _, cells, hc⟩ := hk
    exact hg.block k h3 (fun e => hrow k e.symm cells q hc))) (fun _ hk => hk.1)
/-- Behind an append to what was collected: the map, its range, its sets stay. -/
theorem rng_after {left : Lit → Bool} {cnt : Nat} {v : Value} {L : List S44} {w7 : World} (hR : (tagK g).R 44 wr w.heap.size (fun _ => True) v L) (hrg : wr.ranges Tryz.prog 9 setElem bm r n D left cnt) (hE : KEl wr w.heap.size (fun _ => True) KS Am g) (hg : wr.grownBy w7 v.ownBlock) :
    w7.ranges Tryz.prog 9 setElem bm r n D left cnt ∧ KEl w7 w.heap.size (fun _ => True) KS Am g := by
  have hty := Kd.R_typed hR
  obtain ⟨i1, i2⟩ := rng_iter hrg
  refine ⟨hrg.kept hg (fun e => ?_) (fun e => ?_), hE.grown hg (fun k cells _ hc e => ?_)⟩
  · obtain ⟨cells, hc⟩ := hty bm e.symm; exact i2 cells _ hc
  · obtain ⟨cells, hc⟩ := hty r e.symm; exact i1 cells _ hc
  · obtain ⟨cells', hc'⟩ := hty k e.symm
    rw [hc] at hc'
    injection (Option.some.inj hc') with _ h2
    exact absurd h2 (by decide)
/-- The element that is appended. -/
theorem rng_elem {W : World} {v : Value} {L : List S44} {x : ByteArray} {s : S42} {cs : List Value} (hR : (tagK g).R 44 W w.heap.size (fun _ => True) v L) (hM : k42.M W w.heap.size (fun k => g k = x) s cs) :
    (tagK g).M W w.heap.size (fun k => some k ≠ v.ownBlock) ⟨x, s⟩ (.string x :: cs) := by
  have hty := Kd.R_typed hR
  refine ⟨[.string x], cs, rfl, rfl, k42.M_mono (fun k hk => ⟨fun e => ?_, hk.1⟩) (k42.M_bound hM)⟩
  obtain ⟨_, _, _, q, hq, cells, hc⟩ := hk
  obtain ⟨cells', hc'⟩ := hty k e.symm
  rw [hc] at hc'
  injection (Option.some.inj hc') with _ h2
  rw [kset_E] at hq
  have : q = 9 := by simpa using hq
  rw [this] at h2
  exact absurd h2 (by decide)
/-- The round's end. -/
theorem rng_step {L : List S44} {left : Lit → Bool} {cnt : Nat} {v : Value} {x : ByteArray} {s : S42} {w5 : World} (hn : (L.map (·.f0)).Nodup) (hL : ∀ x, x ∈ L ↔ x ∈ KS ∧ left (.string x.f0.data.toList) = false) (hx : (⟨x, s⟩ : S44) ∈ KS) (hso : SortedK KS) (hl : left (.string x.data.toList) = true)
    (hrg : w5.ranges Tryz.prog 9 setElem bm r n D (fun z => left z && !z.sameKey (.string x.data.toList)) cnt) (hR : (tagK g).R 44 w5 w.heap.size (fun _ => True) v (L ++ [⟨x, s⟩])) (hE : KEl w5 w.heap.size (fun _ => True) KS Am g) (hb : Below w.heap.size w w5) : RngRel KS Am g D w bm r n v w5 := by
  refine ⟨L ++ [⟨x, s⟩], _, cnt, hrg, hR, ?_, fun y => ?_, hE, hb⟩
  · rw [List.map_append, List.nodup_append]
    refine ⟨hn, by simp, fun a ha b hb e => ?_⟩
    have hb2 : b = x := by simpa using hb
    subst e; subst hb2
    obtain ⟨y, hy, rfl⟩ := List.mem_map.1 ha
    rw [((hL y).1 hy).2] at hl; cases hl
  · rw [List.mem_append, List.mem_singleton, hL]
    constructor
    · rintro (⟨h1, h2⟩ | rfl)
      · exact ⟨h1, by rw [h2]; rfl⟩
      · refine ⟨hx, ?_⟩
        rw [sameKey_str]; simp
    · rintro ⟨h1, h2⟩
      by_cases e : y.f0 = x
      · right
        have h3 := findK_mem hso h1
        rw [e, findK_mem hso hx] at h3
        obtain ⟨y0, y1⟩ := y
        have e2 : y0 = x := e
        have e3 : s = y1 := Option.some.inj h3
        rw [e2, e3]
      · left
        refine ⟨h1, ?_⟩
        rw [sameKey_str, decide_eq_false e] at h2
        simpa using h2
end
set_option maxHeartbeats 4000000 in
set_option maxRecDepth 100000 in
theorem sets_ok (A : Option Addr) (c : Nat) (l : List S25) (w : World) (hr : Kd.C k25 w A l.length l) (hc : l.length ≤ c) (hG : GL w) (hs : SmallR l) (h0 : (setsP l 16).2 = 0) :
    Calls Tryz.prog 8 #[.slice A l.length c] w fun e w' => ∃ v0_ : Value, e = .returned (.tuple #[v0_, .int .i64 (keysP l (setsP l 16).1 []).2]) ∧ Kd.S k44 44 w' w.heap.size (fun _ => True) v0_ (keysP l (setsP l 16).1 []).1 ∧ Below w.heap.size w w' := by
  obtain ⟨hl16, hall⟩ := setsP_ok h0
  have hcall := reqs_sets.calls (l.length + 1) A c l 16 (setsP l 16).1 0 w hr hc hG (by rw [sets_f l hs 16 (by omega), ← h0])
  obtain ⟨all, eall⟩ : ∃ all, all = (setsP l 16).1 := ⟨_, rfl⟩
  have hln : all.length = l.length := by rw [eall, hall]; simp
  have hsv : ∀ x ∈ all, SmallV x.f3 := fun x hx => small_set hs (by rw [← hall, ← eall]; exact hx)
  rw [← eall] at hcall ⊢
  clear eall hall h0
  have HS := Lib.hid hs; clear hs
  have HR := Lib.hid hr; clear hr
  have HSV := Lib.hid hsv; clear hsv
  have HLN := Lib.hid hln; clear hln
  have h16 : l.length ≤ 16 := by omega
  clear hl16
  have hmm := @run_makeMap Tryz.prog
  go_enter Tryz.func8, Tryz.ntmps8
  go_wp2_with (first
    | (go_at_call 21; refine hcall.mono ?_; rintro e w1 ⟨v, rfl, hS, hb1⟩; obtain ⟨f, hR⟩ := hS; obtain ⟨Av, cv, hv⟩ := Kd.R_slice hR; rw [List.length_zipIdx, HLN.out] at hv; subst hv; have HRW := Lib.hid hR; clear hR))
  have hbm1 : w1.heap.size ≤ w1.heap.size := Nat.le_refl _
  go_loopw [5, 25] (fun e i wr => ∃ (k : Nat) (KS : List S44), k ≤ l.length ∧ e = .int .i64 0 ∧ i = .int .i64 k ∧ SetsRel l all f w1 w.heap.size w1.heap.size k KS wr) (fun _ i _ => l.length - (intOf i).toNat)
  case atStart => exact ⟨0, [], Nat.zero_le _, rfl, rfl, KMap.made w1 _ _, List.Pairwise.nil, fun x hx => (by cases hx), Nat.zero_le _, rfl, (Below.refl _ _).alloc (Nat.le_refl _) _⟩
  case round =>
    obtain ⟨k, KS, hk, rfl, rfl, hrel2⟩ := hrel
    have HREL := Lib.hid hrel2; clear hrel2
    by_cases hlt : k < l.length
    · obtain ⟨hM, hso, hsk, hkl, heq, hbw⟩ := HREL.out
      obtain ⟨ad, A3, c3, rfl, hMx, l3, g3, s0, s1, s2, s3, s4, s5⟩ := all_get HRW.out HLN.out k hlt
      obtain ⟨s, es⟩ : ∃ s, s = rd_T42 all k := ⟨_, rfl⟩
      rw [← es] at hMx l3 g3 s0 s1 s2 s3 s4 s5
      replace s0 := pw_cell_below hbw s0
      replace s1 := pw_cell_below hbw s1
      replace s2 := pw_cell_below hbw s2
      replace s3 := pw_cell_below hbw s3
      replace s4 := pw_cell_below hbw s4
      replace s5 := pw_cell_below hbw s5
      obtain ⟨ad2, A2, c2, hA, t0, t1, t2, t3, _, _⟩ := at_T25 HR.out (k : Int) (by omega) (by omega)
      subst hA
      obtain ⟨key, ek⟩ : ∃ key, key = (rd_T25 l k).f0 := ⟨_, rfl⟩
      rw [← ek, Int.toNat_natCast] at t0
      replace t0 := pw_cell_below hbw (pw_cell_below hb1 t0)
      clear t1 t2 t3
      have t0A : ∀ o, (wr.alloc o).cell? (ad2.add (k * 4)) = some (.string key) := fun o => pw_cell_below ((Below.refl _ _).alloc (Nat.le_refl _) _) t0
      have hky : key.size ≤ 140737488351232 := by rw [ek]; exact (HS.out _ (by simp [rd_T25, List.getD_eq_getElem?_getD, List.getElem?_eq_getElem hlt])).1
      have HMX := Lib.hid hMx; clear hMx
      have HL3 := Lib.hid l3; clear l3
      have HG3 := Lib.hid g3; clear g3
      have HES := Lib.hid es; clear es
      have HEK := Lib.hid ek; clear ek
      have hlk := hM.look key (by unfold maxLen; omega)
      clear hM hso hsk heq
      rcases hlk with ⟨hf, hlk⟩ | ⟨x, Ax, cx, hf, hlk, lx, gx⟩
      · have hlk2 := fun o => hlk (wr.alloc o) (World.grownBy_alloc _ _ _)
        have HF := Lib.hid hf; clear hf hlk
        go_wp2_with fail
        obtain ⟨W2, eW⟩ : ∃ W2 : World, W2 = (wr.alloc (.cells #[.bool s.f0, .bool s.f1, .bool s.f2, .slice A3 s.f3.length c3, .int .i64 s.f4, .int .i64 s.f5] 42)).alloc (.cells #[.bool false, .bool false, .bool false, .slice none 0 0, .int .i64 0, .int .i64 0] 42) := ⟨_, rfl⟩
        have hbx : W2.heap[wr.heap.size]? = some (.cells #[.bool s.f0, .bool s.f1, .bool s.f2, .slice A3 s.f3.length c3, .int .i64 s.f4, .int .i64 s.f5] 42 (0, 0)) := by rw [eW]; exact blk_alloc (blk_new _ _) _
        have fx := six_facts hbx
        have hb2 : Below wr.heap.size wr W2 := by rw [eW]; exact ((Below.refl _ _).alloc (Nat.le_refl _) _).alloc (by simp) _
        have t02 := pw_cell_below hb2 t0
        rw [← eW]
        clear eW
        obtain ⟨⟨fx0, fx1, fx2, fx3, fx4, fx5⟩, _⟩ := fx
        go_still_tail 7, (by kernel_rfl)
        change wpList _ _ _ _ _ W2.drew
        have hb3 := below_drew hb2
        generalize W2.drew = W3 at hb3 ⊢
        have hbw3 := below_then HREL.out.2.2.2.2.2 HREL.out.2.2.2.2.2.size hb3
        have hnew := M_below (k42.M_mono (fun q hq => (⟨hq.1, hq.2.2.1⟩ : f q = k ∧ q < w1.heap.size)) (k42.M_bound HMX.out)) hbw3
        go_wp2_with (first | (at_mapUpdate; refine k_put (HREL.out.1.below hb3) HREL.out.2.1 rfl _ _ _ rfl key s ⟨s.f0, s.f1, s.f2, A3, s.f3.length, c3, s.f4, s.f5⟩ (fun q => f q = k ∧ q < w1.heap.size) rfl rfl rfl (by unfold maxLen; omega) (by unfold maxLen; omega) hnew (fun q hq h2 => (by rcases h2 with h2 | h2 <;> omega)) ?_; intro W4 hM4 hg4))
        go_roundw
        case rel => exact ⟨k + 1, _, by omega, rfl, by go_num, rel_new HREL.out hlt HLN.out HSV.out HES.out HEK.out HF.out hM4 (hbw3.grown hg4 hbw3.size (fun j hj => by cases hj; exact Nat.le_refl _))⟩
        case measure => show l.length - ((k : Int) + 1).toNat < l.length - (k : Int).toNat; omega
      · have hlk2 := fun o => hlk (wr.alloc o) (World.grownBy_alloc _ _ _)
        have hsx : SmallV x.f3 := HREL.out.2.2.1 _ (findK_some hf)
        have hss : SmallV s.f3 := HSV.out s (mem_rd (by have := HLN.out; omega) HES.out)
        have hGr := GL.of_below hG (below_then hb1 hb1.size HREL.out.2.2.2.2.2)
        have HF := Lib.hid hf; clear hf hlk
        obtain ⟨⟨⟨pm, pn, pu, pv, pl, ph⟩, pe⟩, hp⟩ : ∃ p, meetP (sP x) (sP s) = p := ⟨_, rfl⟩
        have hmeet : ∀ W, Below wr.heap.size wr W → Calls Tryz.prog 22 #[.agg #[.bool x.f0, .bool x.f1, .bool x.f2, .slice Ax x.f3.length cx, .int .i64 x.f4, .int .i64 x.f5], .agg #[.bool s.f0, .bool s.f1, .bool s.f2, .slice A3 s.f3.length c3, .int .i64 s.f4, .int .i64 s.f5]] W fun e w' => ∃ v : Value, e = .returned (.tuple #[.agg #[.bool pm, .bool pn, .bool pu, v, .int .i64 pl, .int .i64 ph], .int .i64 pe]) ∧ Kd.R Kd.string 9 w' W.heap.size (fun _ => True) v pv ∧ Below W.heap.size W w' := fun W hW => by
          have h := meet_walk x.f0 x.f1 x.f2 Ax cx x.f3 x.f4 x.f5 s.f0 s.f1 s.f2 A3 c3 s.f3 s.f4 s.f5 W (Kd.C_below gx hW) lx hsx (Kd.C_below (Kd.C_below HG3.out HREL.out.2.2.2.2.2) hW) HL3.out hss (GL.of_below hGr hW)
          have hp2 : meetP ⟨x.f0, x.f1, x.f2, x.f3, x.f4, x.f5⟩ ⟨s.f0, s.f1, s.f2, s.f3, s.f4, s.f5⟩ = (⟨pm, pn, pu, pv, pl, ph⟩, pe) := hp
          rw [hp2] at h
          exact h
        have HP := Lib.hid hp; clear hp
        have HM2 := Lib.hid hmeet; clear hmeet hsx hss gx lx
        have hb2 : Below wr.heap.size wr ((wr.alloc (.cells #[.bool s.f0, .bool s.f1, .bool s.f2, .slice A3 s.f3.length c3, .int .i64 s.f4, .int .i64 s.f5] 42)).alloc (.cells #[.bool x.f0, .bool x.f1, .bool x.f2, .slice Ax x.f3.length cx, .int .i64 x.f4, .int .i64 x.f5] 42)) := ((Below.refl _ _).alloc (Nat.le_refl _) _).alloc (by simp) _
        have hbx2 : ((wr.alloc (.cells #[.bool s.f0, .bool s.f1, .bool s.f2, .slice A3 s.f3.length c3, .int .i64 s.f4, .int .i64 s.f5] 42)).alloc (.cells #[.bool x.f0, .bool x.f1, .bool x.f2, .slice Ax x.f3.length cx, .int .i64 x.f4, .int .i64 x.f5] 42)).heap[wr.heap.size]? = some (.cells #[.bool s.f0, .bool s.f1, .bool s.f2, .slice A3 s.f3.length c3, .int .i64 s.f4, .int .i64 s.f5] 42 (0, 0)) := blk_alloc (blk_new _ _) _
        by_cases h0 : pe = 0
        · subst h0
          go_wp2_with (first | (go_at_call 22; refine (HM2.out _ hb2).mono ?_; rintro e w3 ⟨v3, rfl, hR3, hb3⟩; obtain ⟨A5, c5, rfl⟩ := Kd.R_slice hR3; have hbx3 := blk_below hbx2 hb3; have fx3 := six_facts (show w3.heap[wr.heap.size]? = some (.cells #[.bool s.f0, .bool s.f1, .bool s.f2, .slice A3 s.f3.length c3, .int .i64 s.f4, .int .i64 s.f5] 42 (0, 0)) from hbx3); have hz3 : wr.heap.size < w3.heap.size := blk_lt hbx3))
          obtain ⟨W4, eW⟩ : ∃ W4 : World, W4 = six w3 wr.heap.size (.bool pm) (.bool pn) (.bool pu) (.slice A5 pv.length c5) (.int .i64 pl) (.int .i64 ph) := ⟨_, rfl⟩
          have hbx4 : W4.heap[wr.heap.size]? = some (.cells #[.bool pm, .bool pn, .bool pu, .slice A5 pv.length c5, .int .i64 pl, .int .i64 ph] 42 (0, 0)) := by rw [eW]; exact six_put hbx3 _ _ _ _ _ _
          have hb4 : Below wr.heap.size wr W4 := by rw [eW]; exact six_below (below_then hb2 hb2.size hb3) (Nat.le_refl _) _ _ _ _ _ _
          have hR4 : Kd.R Kd.string 9 W4 (wr.heap.size + 2) (fun _ => True) (.slice A5 pv.length c5) pv := by rw [eW]; exact six_R hbx3 (by decide) (by simpa using hR3) _ _ _ _ _ _
          have t04 := pw_cell_below hb4 t0
          change Code.wp _ _ _ _ (six w3 wr.heap.size (.bool pm) (.bool pn) (.bool pu) (.slice A5 pv.length c5) (.int .i64 pl) (.int .i64 ph))
          rw [← eW]
          clear eW hbx3 fx3 hR3 hb3 hz3
          obtain ⟨⟨fx0, fx1, fx2, fx3, fx4, fx5⟩, _⟩ := six_facts hbx4
          go_still_tail 7, (by kernel_rfl)
          change wpList _ _ _ _ _ W4.drew
          have hb5 := below_drew hb4
          have hR5 := Kd.R_drew hR4
          generalize W4.drew = W5 at hb5 hR5 ⊢
          have hbw5 := below_then HREL.out.2.2.2.2.2 HREL.out.2.2.2.2.2.size hb5
          have hnew : k42.M W5 w.heap.size (fun q => wr.heap.size + 2 ≤ q) (pS ⟨pm, pn, pu, pv, pl, ph⟩) (cells6 ⟨pm, pn, pu, A5, pv.length, c5, pl, ph⟩) :=
            k42_mkM W5 w.heap.size _ (pS ⟨pm, pn, pu, pv, pl, ph⟩) (Kd.R_lower (Kd.R_mono (Kd.R_bound hR5) (fun q hq => hq.2.1)) (by have h1 := hb1.size; have h2 := HREL.out.2.2.2.2.2.size; omega))
          go_wp2_with (first | (at_mapUpdate; refine k_put (HREL.out.1.bound.below hb5) HREL.out.2.1 rfl _ _ _ rfl key (pS ⟨pm, pn, pu, pv, pl, ph⟩) ⟨pm, pn, pu, A5, pv.length, c5, pl, ph⟩ (fun q => wr.heap.size + 2 ≤ q) rfl rfl rfl (by unfold maxLen; omega) (by unfold maxLen; omega) hnew (fun q hq h2 => (by omega)) ?_; intro W6 hM6 hg6))
          go_roundw
          case rel => exact ⟨k + 1, _, by omega, rfl, by go_num, rel_meet HREL.out hlt HLN.out HSV.out HES.out HEK.out HF.out HP.out (by have h2 := HREL.out.2.2.2.2.2.size; omega) hM6 (hbw5.grown hg6 hbw5.size (fun j hj => by cases hj; exact Nat.le_refl _))⟩
          case measure => show l.length - ((k : Int) + 1).toNat < l.length - (k : Int).toNat; omega
        · have hq : (pe != 0) = true := by simpa using h0
          have H0 := Lib.hid h0; clear h0
          go_wp2_with (first | (go_at_call 22; refine (HM2.out _ hb2).mono ?_; rintro e w3 ⟨v3, rfl, hR3, hb3⟩; obtain ⟨A5, c5, rfl⟩ := Kd.R_slice hR3; have hbx3 := blk_below hbx2 hb3; have fx3 := six_facts (show w3.heap[wr.heap.size]? = some (.cells #[.bool s.f0, .bool s.f1, .bool s.f2, .slice A3 s.f3.length c3, .int .i64 s.f4, .int .i64 s.f5] 42 (0, 0)) from hbx3); have hz3 : wr.heap.size < w3.heap.size := blk_lt hbx3))
          go_ret2
          rw [rel_err HREL.out hlt HLN.out HES.out HEK.out HF.out HP.out H0.out]
          have hq1 := hb1.size
          have hq2 := HREL.out.2.2.2.2.2.size
          exact ⟨_, rfl, Kd.S_nil _ _ _ _ _, six_below (below_then (below_then hb1 hb1.size HREL.out.2.2.2.2.2) (Nat.le_trans hq1 hq2) (below_then hb2 hb2.size hb3)) (Nat.le_trans hq1 hq2) _ _ _ _ _ _⟩
    · have hke : k = l.length := by omega
      subst hke
      obtain ⟨hM, hso, hsk, hkl, heq, hbw⟩ := HREL.out
      rw [List.drop_length] at heq
      have HEQ := Lib.hid (show keysP l all [] = (KS, 0) from heq)
      have HSO := Lib.hid hso
      obtain ⟨Am, g, ⟨D, hown, hi⟩, hE⟩ := hM.mono (ok' := fun _ => True) (fun _ _ => trivial)
      have HI := Lib.hid hi
      clear hM hso hsk heq hi
      go_wp2_with (first | (at_range; refine wpList_range_own _ rfl _ _ rfl 9 42 keyS Tryz.underlying56 _ w1.heap.size _ D rfl hown ?_; intro w4 hrg hg4 hz4))
      have hE4 := hE.grown hg4 (by simp)
      have hb4 := (below_then hb1 hb1.size hbw).grown hg4 (Nat.le_trans hb1.size hbw.size) (fun k hk => (by cases hk))
      have hrw : w.heap.size ≤ wr.heap.size := Nat.le_trans hb1.size hbw.size
      clear hown hg4 hz4 hE
      generalize wr.heap.size = r at hrg hrw ⊢
      go_frame
      have hstart := Lib.hid (rng_start hrg hE4 hb4 HI.out HSO.out)
      clear hrg hE4 hb4
      go_loopw [11] (fun v wr => RngRel KS Am g D w w1.heap.size r l.length v wr) (fun _ wr => wr.rangeLeft w1.heap.size r)
      case atStart => exact hstart.out
      case round =>
        clear hstart
        obtain ⟨L, left, cnt, hrg, hR, hn, hL, hE, hb⟩ := hrel
        have HL := Lib.hid hL; clear hL
        have hlen := rng_len hn (fun x hx => ((HL.out x).1 hx).1) (by omega)
        go_wp2_with (first
          | (at_next; refine wpList_next_ranges _ rfl _ rfl 9 keyS _ Value.string (fun c : Row6 => Value.agg #[.bool c.m, .bool c.n, .bool c.u, .slice c.A c.len c.cap, .int .i64 c.lo, .int .i64 c.hi]) (fun key kl hk => Maps.keyOf_string_inv Tryz.underlying9 hk) (fun v y hv => by obtain ⟨r, rfl⟩ := setElem_inv hv; exact ⟨r, rfl⟩) w1.heap.size r _ _ _ _ rfl hrg ?_ ?_)
          | go_in)
        · intro _ hl0
          have hLm := Lib.hid (show ∀ x, x ∈ L ↔ x ∈ KS from fun x => by rw [HL.out, hl0]; simp)
          clear hl0
          go_wp2_with (first | (go_at_call 23; refine (sort_walk hR hn hLm.out HSO.out (by omega) hb hb.size).mono ?_; rintro e w7 ⟨rfl, hS7, hb7⟩))
          go_ret2
          rw [HEQ.out]
          exact ⟨_, rfl, hS7, hb7⟩
        · intro x c kl yd yp w5 cnt5 hkey hlk hv hat hrg5 hlt5 hg5 hs5 hen
          clear hs5
          obtain ⟨hkl, hxs⟩ := key_inv hkey
          subst hkl
          obtain ⟨s, A3, c3, hxK, ec, hMs⟩ := rng_entry (y := (yd, yp)) hE HI.out hv hat
          subst ec
          obtain ⟨i1, i2⟩ := rng_iter hrg
          have hRow : ∀ k, some r = some k → ∀ cells q, wr.heap[k]? ≠ some (.cells cells q (0, 0)) := fun k e => by rw [← Option.some.inj e]; exact i1
          have hE5 := hE.grown hg5 (fun k cells _ hc e => hRow k e.symm cells _ hc)
          have hR5 := R_kept hR hg5 hRow
          have hM5 := M_grown hMs hg5 (fun k cells q _ hc _ e => hRow k e.symm cells q hc)
          have hb5 := hb.grown hg5 hb.size (fun k e => (by rw [← Option.some.inj e]; exact hrw))
          clear hE hR hMs hg5 hRow i1 i2 hat hv hkey
          go_upto_region 19 with (fail)
          obtain ⟨W6, eW⟩ : ∃ W6 : World, W6 = w5.alloc (.cells #[.bool s.f0, .bool s.f1, .bool s.f2, .slice A3 s.f3.length c3, .int .i64 s.f4, .int .i64 s.f5] 42) := ⟨_, rfl⟩
          have hbx6 : W6.heap[w5.heap.size]? = some (.cells #[.bool s.f0, .bool s.f1, .bool s.f2, .slice A3 s.f3.length c3, .int .i64 s.f4, .int .i64 s.f5] 42 (0, 0)) := by rw [eW]; exact blk_new _ _
          obtain ⟨⟨fx0, fx1, fx2, fx3, fx4, fx5⟩, _⟩ := six_facts hbx6
          have hE6 : KEl W6 w.heap.size (fun _ => True) KS Am g := by rw [eW]; exact hE5.grown (World.grownBy_alloc _ _ none) (fun k cells _ _ => by simp)
          have hR6 : (tagK g).R 44 W6 w.heap.size (fun _ => True) u11 L := by rw [eW]; exact Kd.R_alloc hR5 _
          have hM6 : k42.M W6 w.heap.size (fun k => g k = x) s (cells6 ⟨s.f0, s.f1, s.f2, A3, s.f3.length, c3, s.f4, s.f5⟩) := by rw [eW]; exact M_grown hM5 (World.grownBy_alloc _ _ none) (fun k cells q _ _ _ => by simp)
          have hb6 : Below w.heap.size w W6 := by rw [eW]; exact hb5.alloc hb5.size _
          have hrg6 : W6.ranges Tryz.prog 9 setElem w1.heap.size r l.length D (fun z => left z && !z.sameKey (.string x.data.toList)) cnt5 := by rw [eW]; exact hrg5.alloc _
          have hmeas := hrg5.left_eq
          rw [← eW]
          have hp6 := rng_elem hR6 hM6
          have hSZ : 0 < (tagK g).sz := (by decide : 0 < 7)
          have hLE : (L.length + 1) * 64 ≤ 140737488355328 := by omega
          clear eW hE5 hR5 hM5 hb5 hM6 hbx6
          go_wp2_with (first
            | (at_builtin; refine Kd.R_append (tagK g) (w0 := w) w.heap.size rfl _ _ 27 44 (.agg #[(.string ⟨#[]⟩), (.bool false), (.bool false), (.bool false), (.slice none 0 0), (.int .i64 0), (.int .i64 0)]) 64 rfl Tryz.underlying27 info44b rfl hSZ (by omega) u11 L ⟨x, s⟩ [.string x, .bool s.f0, .bool s.f1, .bool s.f2, .slice A3 s.f3.length c3, .int .i64 s.f4, .int .i64 s.f5] (fun _ => True) (fun k => some k ≠ u11.ownBlock) rfl rfl hp6 (fun _ hk => ⟨trivial, hk⟩) (fun _ _ => trivial) hR6 hb6 hb6.size hLE ?_; intro v7 w7 hR7 hb7 hg7 hat7))
          obtain ⟨hrg7, hE7⟩ := rng_after hR6 hrg6 hE6 hg7
          go_roundw
          case rel => exact rng_step hn HL.out hxK HSO.out hlk hrg7 hR7 hE7 hb7
          case measure => rw [hrg7.left_eq, hrg.left_eq]; omega
set_option maxHeartbeats 1000000 in
set_option maxRecDepth 100000 in
theorem sets_err (A : Option Addr) (c : Nat) (l : List S25) (w : World) (hr : Kd.C k25 w A l.length l) (hc : l.length ≤ c) (hG : GL w) (hs : SmallR l) (h0 : (setsP l 16).2 ≠ 0) :
    Calls Tryz.prog 8 #[.slice A l.length c] w fun e w' => ∃ v0_ : Value, e = .returned (.tuple #[v0_, .int .i64 (setsP l 16).2]) ∧ Kd.S k44 44 w' w.heap.size (fun _ => True) v0_ [] ∧ Below w.heap.size w w' := by
  have hcall := reqs_sets.calls (l.length + 1) A c l 16 (setsP l 16).1 (setsP l 16).2 w hr hc hG (sets_f l hs 16 (by omega))
  obtain ⟨all, eall⟩ : ∃ all, all = (setsP l 16).1 := ⟨_, rfl⟩
  obtain ⟨E, hE⟩ : ∃ E, (setsP l 16).2 = E := ⟨_, rfl⟩
  rw [← eall] at hcall
  rw [hE] at h0 hcall ⊢
  clear eall hE
  have hq : (E != 0) = true := by simpa using h0
  clear h0 hr hs
  go_enter Tryz.func8, Tryz.ntmps8
  go_wp2_with (first
    | (go_at_call 21; refine hcall.mono ?_; rintro e w1 ⟨v, rfl, hS, hb1⟩))
  go_ret2
  exact ⟨_, rfl, Kd.S_nil _ _ _ _ _, hb1⟩
theorem sets_walk (A : Option Addr) (c : Nat) (l : List S25) (w : World) (hr : Kd.C k25 w A l.length l) (hc : l.length ≤ c) (hG : GL w) (hs : SmallR l) :
    Calls Tryz.prog 8 #[.slice A l.length c] w fun e w' => ∃ v0_ : Value, e = .returned (.tuple #[v0_, .int .i64 (SetsP l).2]) ∧ Kd.S k44 44 w' w.heap.size (fun _ => True) v0_ (SetsP l).1 ∧ Below w.heap.size w w' := by
  unfold SetsP
  by_cases h0 : (setsP l 16).2 = 0
  · rw [if_pos h0]; exact sets_ok A c l w hr hc hG hs h0
  · rw [if_neg h0]; exact sets_err A c l w hr hc hG hs h0
def reqs_Sets.f (l : List S25) : Option (List S44 × Int) := if smallRB l = true then some (SetsP l) else none
theorem reqs_Sets.calls (A0 : Option Addr) (c0 : Nat) (l0 : List S25) (r1 : List S44) (r2 : Int) (w : World) (hr0 : Kd.C k25 w A0 l0.length l0) (hc0 : l0.length ≤ c0) (hG : GL w) (h : reqs_Sets.f l0 = some (r1, r2)) :
    Calls Tryz.prog 8 #[.slice A0 l0.length c0] w fun e w' => ∃ v0_ : Value, e = .returned (.tuple #[v0_, .int .i64 r2]) ∧ Kd.S k44 44 w' w.heap.size (fun _ => True) v0_ r1 ∧ Below w.heap.size w w' := by
  unfold reqs_Sets.f at h
  by_cases hs0 : smallRB l0 = true
  · have hs := (smallRB_iff _).1 hs0
    rw [if_pos hs0] at h
    have h2 := Option.some.inj h
    have h3 := sets_walk A0 c0 l0 w hr0 hc0 hG hs
    rw [h2] at h3
    exact h3
  · rw [if_neg hs0] at h; cases h
end Go.Proofs.YtblfbdlhphhfnaaGreatDoor.PA
