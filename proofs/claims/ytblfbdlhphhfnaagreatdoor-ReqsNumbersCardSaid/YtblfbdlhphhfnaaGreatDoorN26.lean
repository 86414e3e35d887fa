import Derived.Test.YtblfbdlhphhfnaaGreatDoorN4
import Derived.Test.YtblfbdlhphhfnaaGreatDoorN8
import Derived.Test.YtblfbdlhphhfnaaGreatDoorN14
import Derived.Test.YtblfbdlhphhfnaaGreatDoorN16
import Derived.Test.YtblfbdlhphhfnaaGreatDoorN19
import Derived.Test.YtblfbdlhphhfnaaGreatDoorN20
import Derived.Test.YtblfbdlhphhfnaaGreatDoorN21
import Derived.Test.YtblfbdlhphhfnaaGreatDoorN24
import Derived.Test.YtblfbdlhphhfnaaGreatDoorN25
import Derived.IntWalk
import Derived.Deep.DeepCutAuto
namespace Go.Proofs.YtblfbdlhphhfnaaGreatDoor.PA
open Go.RowKit Go.Maps Go.Sort Go.Shelf Go.Proofs.YtblfbdlhphhfnaaGreatDoorW.PrintWords Go.Proofs.YtblfbdlhphhfnaaGreatDoorW.PrintLast
set_option linter.unusedVariables false
set_option linter.unusedSimpArgs false
def hasP (neg num : Bool) (vals : List ByteArray) (lo hi : Int) (v : ByteArray) : Bool :=
  if (neg != memS vals v) = true then (!num || ((numR v.data.toList).2 && decide (lo ≤ (numR v.data.toList).1) && decide ((numR v.data.toList).1 ≤ hi))) else false
def zeroSet : PSet := ⟨false, false, false, [], 0, 0⟩
def meet1 (x y : PSet) : PSet × Bool :=
  if x.neg = false then (⟨false, false, false, x.vals.filter (hasP y.neg y.num y.vals y.lo y.hi), 0, 0⟩, true)
  else if y.num = false then (⟨false, true, false, groupS (x.vals ++ y.vals), 0, 0⟩, decide ((groupS (x.vals ++ y.vals)).length ≤ 64))
  else if x.num = false then numbersP y.lo y.hi (groupS (x.vals ++ y.vals))
  else numbersP (max x.lo y.lo) (min x.hi y.hi) (groupS (x.vals ++ y.vals))
def meet2 (x y : PSet) : PSet × Int :=
  if (meet1 x y).2 = true then (⟨x.miss && y.miss, (meet1 x y).1.neg, (meet1 x y).1.num, (meet1 x y).1.vals, (meet1 x y).1.lo, (meet1 x y).1.hi⟩, 0) else (zeroSet, 3)
def swapB (x y : PSet) : Bool := (x.neg && !y.neg) || (x.num && y.neg && !y.num)
def meetP (x y : PSet) : PSet × Int :=
  if checkP x.neg x.num x.vals x.lo x.hi = 0 then (if checkP y.neg y.num y.vals y.lo y.hi = 0 then (if swapB x y = true then meet2 y x else meet2 x y) else (zeroSet, checkP y.neg y.num y.vals y.lo y.hi)) else (zeroSet, checkP x.neg x.num x.vals x.lo x.hi)
theorem chkL_true (num : Bool) (lo hi : Int) : ∀ (l : List ByteArray) (p : Option ByteArray), chkL num lo hi p l true = true
  | [], p => by cases p <;> rfl
  | v :: r, p => by
    rw [chkL, show chk1 num lo hi p v true = true by unfold chk1; cases num <;> simp]
    exact chkL_true num lo hi r (some v)
/-- What a set that may be is like. -/
theorem checkP_ok {neg num : Bool} {vals : List ByteArray} {lo hi : Int} (h : checkP neg num vals lo hi = 0) : vals.length ≤ 64 ∧ (num = true → neg = true) ∧ (num = true → -2147483648 ≤ lo ∧ hi ≤ 2147483648 ∧ lo ≤ hi ∧ 64 < hi - lo + 1 - (vals.length : Int)) ∧ (num = false → lo = 0 ∧ hi = 0) := by
  have hb : checkB neg num vals lo hi = false := by
    unfold checkP at h
    cases hc : checkB neg num vals lo hi with
    | false => rfl
    | true => rw [hc] at h; simp at h
  cases h0 : chk0 neg num vals lo hi with
  | true =>
    exfalso
    unfold checkB at hb
    rw [h0, chkL_true] at hb
    simp at hb
  | false =>
    unfold chk0 at h0
    simp only [Bool.or_eq_false_iff, Bool.and_eq_false_iff, decide_eq_false_iff_not, Bool.not_eq_false', Bool.not_eq_false] at h0
    obtain ⟨⟨h1, h2⟩, h3⟩ := h0
    refine ⟨by omega, fun hn => ?_, fun hn => ?_, fun hn => ?_⟩
    · rcases h2 with h2 | h2
      · rw [hn] at h2; cases h2
      · simpa using h2
    · subst hn
      cases hl : chkL true lo hi none vals (chk0 neg true vals lo hi) with
      | true => unfold checkB at hb; rw [hl] at hb; simp at hb
      | false =>
        unfold checkB at hb
        rw [hl] at hb
        simp at hb
        omega
    · subst hn
      rcases h3 with h3 | h3
      · simp at h3
      · simpa using h3
end Go.Proofs.YtblfbdlhphhfnaaGreatDoor.PA
namespace Go.Proofs.YtblfbdlhphhfnaaGreatDoor.PA
open Go.RowKit Go.Maps Go.Sort Go.Shelf Go.Proofs.YtblfbdlhphhfnaaGreatDoorW.PrintWords Go.Proofs.YtblfbdlhphhfnaaGreatDoorW.PrintLast
set_option linter.unusedVariables false
set_option linter.unusedSimpArgs false
def sP (x : S42) : PSet := ⟨x.f0, x.f1, x.f2, x.f3, x.f4, x.f5⟩
def pS (p : PSet) : S42 := ⟨p.miss, p.neg, p.num, p.vals, p.lo, p.hi⟩
/-- The set of a requirement, and its error. -/
def of1 (r : S25) : PSet × Int := ofP r.f0 r.f1 r.f2 r.f3
/-- Sets of requirements, one by one. -/
def allP : List S25 → List S42 → List S42 × Int
  | [], acc => (acc, 0)
  | r :: l, acc => if (of1 r).2 = 0 then allP l (acc ++ [pS (of1 r).1]) else ([], (of1 r).2)
def setsP (l : List S25) (most : Int) : List S42 × Int := if (l.length : Int) > most then ([], 3) else allP l []
/-- Where a key stands. -/
def findK : List S44 → ByteArray → Option S42
  | [], _ => none
  | x :: r, k => if x.f0 = k then some x.f1 else findK r k
/-- Laid at its key, among keys that rise. -/
def putK : List S44 → ByteArray → S42 → List S44
  | [], k, s => [⟨k, s⟩]
  | x :: r, k, s => if ltS x.f0 k then x :: putK r k s else if x.f0 = k then ⟨k, s⟩ :: r else ⟨k, s⟩ :: x :: r
def SortedK (S : List S44) : Prop := S.Pairwise fun x y => ltS x.f0 y.f0 = true
/-- The sets of each key. -/
def keysP : List S25 → List S42 → List S44 → List S44 × Int
  | r :: l, s :: all, KS =>
    match findK KS r.f0 with
    | some was => if (meetP (sP was) (sP s)).2 = 0 then keysP l all (putK KS r.f0 (pS (meetP (sP was) (sP s)).1)) else ([], (meetP (sP was) (sP s)).2)
    | none => keysP l all (putK KS r.f0 s)
  | _, _, KS => (KS, 0)
def SetsP (l : List S25) : List S44 × Int := if (setsP l 16).2 = 0 then keysP l (setsP l 16).1 [] else ([], (setsP l 16).2)
theorem mem_putK (S : List S44) (k : ByteArray) (s x) : x ∈ putK S k s → x ∈ S ∨ x = ⟨k, s⟩ := by
  induction S with
  | nil => simp [putK]
  | cons y r ih =>
    unfold putK
    by_cases h : ltS y.f0 k = true
    · simp only [h, if_true, List.mem_cons]; grind
    · by_cases e : y.f0 = k
      · simp only [h, e, if_true, List.mem_cons]; grind
      · simp only [h, e, if_false, List.mem_cons]; grind
theorem key_putK (S : List S44) (k : ByteArray) (s) (x : ByteArray) : x ∈ (putK S k s).map (·.f0) ↔ x ∈ S.map (·.f0) ∨ x = k := by
  induction S with
  | nil => simp [putK]
  | cons y r ih =>
    unfold putK
    by_cases h : ltS y.f0 k = true
    · simp only [h, if_true, List.map_cons, List.mem_cons, ih]; grind
    · by_cases e : y.f0 = k
      · simp only [h, e, if_true, List.map_cons, List.mem_cons]; grind
      · simp only [h, e, if_false, List.map_cons, List.mem_cons]; grind
theorem sortedK_put {S : List S44} (h : SortedK S) (k : ByteArray) (s) : SortedK (putK S k s) := by
  induction S with
  | nil => simp [putK, SortedK]
  | cons y r ih =>
    have h1 := List.pairwise_cons.1 h
    unfold putK
    by_cases hl : ltS y.f0 k = true
    · rw [if_pos hl]
      refine List.pairwise_cons.2 ⟨fun z hz => ?_, ih h1.2⟩
      rcases mem_putK r k s z hz with hz | rfl
      · exact h1.1 z hz
      · exact hl
    · rw [if_neg hl]
      by_cases e : y.f0 = k
      · rw [if_pos e]
        exact List.pairwise_cons.2 ⟨fun z hz => by show ltS k z.f0 = true; rw [← e]; exact h1.1 z hz, h1.2⟩
      · rw [if_neg e]
        have hsy := ltS_total (by simpa using hl) e
        refine List.pairwise_cons.2 ⟨fun z hz => ?_, h⟩
        rcases List.mem_cons.1 hz with rfl | hz
        · exact hsy
        · exact ltS_trans hsy (h1.1 z hz)
theorem findK_some {S : List S44} {k : ByteArray} {s} (h : findK S k = some s) : ⟨k, s⟩ ∈ S := by
  induction S with
  | nil => cases h
  | cons y r ih =>
    unfold findK at h
    by_cases e : y.f0 = k
    · rw [if_pos e] at h
      rw [← Option.some.inj h, ← e]
      exact List.mem_cons_self
    · rw [if_neg e] at h
      exact List.mem_cons_of_mem _ (ih h)
theorem findK_mem {S : List S44} (h : SortedK S) {x} (hx : x ∈ S) : findK S x.f0 = some x.f1 := by
  induction S with
  | nil => cases hx
  | cons y r ih =>
    have h1 := List.pairwise_cons.1 h
    unfold findK
    rcases List.mem_cons.1 hx with rfl | hx
    · rw [if_pos rfl]
    · by_cases e : y.f0 = x.f0
      · have := h1.1 x hx; rw [e, ltS_irrefl] at this; cases this
      · rw [if_neg e]; exact ih h1.2 hx
theorem length_putK (S : List S44) (k : ByteArray) (s) : (putK S k s).length ≤ S.length + 1 := by
  induction S with
  | nil => simp [putK]
  | cons y r ih =>
    unfold putK
    by_cases h : ltS y.f0 k = true
    · rw [if_pos h]; simp; omega
    · rw [if_neg h]
      by_cases e : y.f0 = k
      · rw [if_pos e]; simp
      · rw [if_neg e]; simp
/-- What stands at the keys behind a laying. -/
theorem findK_put {S : List S44} (h : SortedK S) (k : ByteArray) (s) (x : ByteArray) : findK (putK S k s) x = if x = k then some s else findK S x := by
  by_cases e : x = k
  · subst e
    rw [if_pos rfl]
    have hk : x ∈ (putK S x s).map (·.f0) := (key_putK S x s x).2 (.inr rfl)
    obtain ⟨y, hy, hyk⟩ := List.mem_map.1 hk
    have hf := findK_mem (sortedK_put h x s) hy
    rw [hyk] at hf
    rw [hf]
    clear hf hk
    induction S with
    | nil =>
      simp [putK] at hy; rw [hy]
    | cons z r ih =>
      have h1 := List.pairwise_cons.1 h
      unfold putK at hy
      by_cases hl : ltS z.f0 x = true
      · rw [if_pos hl] at hy
        rcases List.mem_cons.1 hy with rfl | hy
        · rw [hyk, ltS_irrefl] at hl; cases hl
        · exact ih h1.2 hy
      · rw [if_neg hl] at hy
        by_cases e : z.f0 = x
        · rw [if_pos e] at hy
          rcases List.mem_cons.1 hy with rfl | hy
          · rfl
          · have := h1.1 y hy; rw [e, hyk, ltS_irrefl] at this; cases this
        · rw [if_neg e] at hy
          rcases List.mem_cons.1 hy with rfl | hy
          · rfl
          · have hxz := ltS_total (by simpa using hl) e
            rcases List.mem_cons.1 hy with rfl | hy
            · exact absurd hyk e
            · have := ltS_trans hxz (h1.1 y hy); rw [hyk, ltS_irrefl] at this; cases this
  · rw [if_neg e]
    clear h
    induction S with
    | nil => simp [putK, findK]; intro h; exact absurd h.symm e
    | cons z r ih =>
      unfold putK
      by_cases hl : ltS z.f0 k = true
      · rw [if_pos hl, findK, findK, ih]
      · rw [if_neg hl]
        by_cases ez : z.f0 = k
        · rw [if_pos ez, findK, findK, if_neg (fun h => e h.symm), if_neg (fun h => e (h.symm.trans ez))]
        · rw [if_neg ez, findK, if_neg (fun h => e h.symm)]
end Go.Proofs.YtblfbdlhphhfnaaGreatDoor.PA
namespace Go.Proofs.YtblfbdlhphhfnaaGreatDoor.PA
open Go.RowKit Go.Maps Go.Sort Go.Proofs.YtblfbdlhphhfnaaGreatDoorW.PrintWords Go.Proofs.YtblfbdlhphhfnaaGreatDoorW.PrintLast
set_option linter.unusedVariables false
set_option linter.unusedSimpArgs false
/-- The six cells of a set. -/
structure Row6 where
  m : Bool
  n : Bool
  u : Bool
  A : Option Addr
  len : Nat
  cap : Nat
  lo : Int
  hi : Int
def cells6 (r : Row6) : List Value := [.bool r.m, .bool r.n, .bool r.u, .slice r.A r.len r.cap, .int .i64 r.lo, .int .i64 r.hi]
def mk6 (r : Row6) : Value := .agg #[.bool r.m, .bool r.n, .bool r.u, .slice r.A r.len r.cap, .int .i64 r.lo, .int .i64 r.hi]
def zero6 : Row6 := ⟨false, false, false, none, 0, 0, 0, 0⟩
open Classical in
noncomputable def setElem (v : Value) : Option (DataW Value × List MemPlace) := if ∃ r, v = mk6 r then some (.held v, []) else none
theorem setElem_exact : Exact setElem := by
  intro v y h
  unfold setElem at h
  split at h
  · exact (Option.some.inj h).symm
  · cases h
theorem setElem_mk (r : Row6) : setElem (mk6 r) = some (.held (mk6 r), []) := by unfold setElem; rw [if_pos ⟨r, rfl⟩]
theorem setElem_inv {v : Value} {y} (h : setElem v = some y) : ∃ r, v = mk6 r := by
  unfold setElem at h
  split at h
  · assumption
  · cases h
theorem kset_E : k42.E = [9] := rfl
theorem M_grown {α : Type} {d : Kd α} {w w' : World} {base : Nat} {ok : Nat → Prop} {x : α} {cs : List Value} {row : Option Nat} (h : d.M w base ok x cs) (hg : w.grownBy w' row) (hok : ∀ k cells q, ok k → w.heap[k]? = some (.cells cells q (0, 0)) → q ∈ d.E → some k ≠ row) : d.M w' base ok x cs :=
  d.M_mono (fun k hk => hk.1) (d.M_move (fun k hk => by
    obtain ⟨h1, h2, h3, q, hq, cells, hc⟩ := hk
    exact hg.block k h3 (hok k cells q h1 hc hq)) (d.M_bound h))
theorem M_below {α : Type} {d : Kd α} {w w' : World} {base : Nat} {ok : Nat → Prop} {x : α} {cs : List Value} (h : d.M w base ok x cs) (hb : Below w.heap.size w w') : d.M w' base ok x cs :=
  M_grown h (grown_of_below hb none) (by simp)
/-- The entries. -/
def KEl (w : World) (base : Nat) (ok : Nat → Prop) (KS : List S44) (A : ByteArray → Option Value) (g : Nat → ByteArray) : Prop :=
  (∀ s, A s = none ↔ findK KS s = none) ∧ ∀ x ∈ KS, ∃ r : Row6, A x.f0 = some (mk6 r) ∧ k42.M w base (fun k => ok k ∧ g k = x.f0) x.f1 (cells6 r)
def KMap (w : World) (b n base : Nat) (ok : Nat → Prop) (KS : List S44) : Prop := ∃ (A : ByteArray → Option Value) (g : Nat → ByteArray), VAt setElem w b n A ∧ KEl w base ok KS A g
theorem KEl.grown {w w' : World} {base : Nat} {ok : Nat → Prop} {KS} {A : ByteArray → Option Value} {g : Nat → ByteArray} {row : Option Nat} (h : KEl w base ok KS A g) (hg : w.grownBy w' row) (hok : ∀ k cells, ok k → w.heap[k]? = some (.cells cells 9 (0, 0)) → some k ≠ row) : KEl w' base ok KS A g :=
  ⟨h.1, fun x hx => by
    obtain ⟨r, h1, h2⟩ := h.2 x hx
    exact ⟨r, h1, M_grown h2 hg (fun k cells q hk hc hq => by
      rw [kset_E] at hq
      have : q = 9 := by simpa using hq
      subst this
      exact hok k cells hk.1 hc)⟩⟩
theorem KEl.below {w w' : World} {base : Nat} {ok : Nat → Prop} {KS} {A : ByteArray → Option Value} {g : Nat → ByteArray} (h : KEl w base ok KS A g) (hb : Below w.heap.size w w') : KEl w' base ok KS A g := h.grown (grown_of_below hb none) (by simp)
theorem KEl.mono {w : World} {base : Nat} {ok ok' : Nat → Prop} {KS} {A : ByteArray → Option Value} {g : Nat → ByteArray} (h : KEl w base ok KS A g) (ho : ∀ k, ok k → ok' k) : KEl w base ok' KS A g :=
  ⟨h.1, fun x hx => by obtain ⟨r, h1, h2⟩ := h.2 x hx; exact ⟨r, h1, k42.M_mono (fun k hk => ⟨ho k hk.1, hk.2⟩) h2⟩⟩
theorem KEl.bound {w : World} {base : Nat} {ok : Nat → Prop} {KS} {A : ByteArray → Option Value} {g : Nat → ByteArray} (h : KEl w base ok KS A g) : KEl w base (fun k => ok k ∧ k < w.heap.size) KS A g :=
  ⟨h.1, fun x hx => by obtain ⟨r, h1, h2⟩ := h.2 x hx; exact ⟨r, h1, k42.M_mono (fun k hk => ⟨⟨hk.1.1, hk.2.2.1⟩, hk.1.2⟩) (k42.M_bound h2)⟩⟩
section
variable {w w' : World} {b n base : Nat} {ok ok' : Nat → Prop} {KS : List S44}
theorem KMap.grown {row : Option Nat} (h : KMap w b n base ok KS) (hg : w.grownBy w' row) (hne : some b ≠ row) (hok : ∀ k cells, ok k → w.heap[k]? = some (.cells cells 9 (0, 0)) → some k ≠ row) : KMap w' b n base ok KS := by
  obtain ⟨A, g, h1, h2⟩ := h; exact ⟨A, g, h1.kept hg hne, h2.grown hg hok⟩
theorem KMap.below (h : KMap w b n base ok KS) (hb : Below w.heap.size w w') : KMap w' b n base ok KS := by
  obtain ⟨A, g, h1, h2⟩ := h; exact ⟨A, g, h1.below hb, h2.below hb⟩
theorem KMap.mono (h : KMap w b n base ok KS) (ho : ∀ k, ok k → ok' k) : KMap w b n base ok' KS := by
  obtain ⟨A, g, h1, h2⟩ := h; exact ⟨A, g, h1, h2.mono ho⟩
theorem KMap.bound (h : KMap w b n base ok KS) : KMap w b n base (fun k => ok k ∧ k < w.heap.size) KS := by
  obtain ⟨A, g, h1, h2⟩ := h; exact ⟨A, g, h1, h2.bound⟩
theorem KMap.made (w : World) (base : Nat) (ok : Nat → Prop) : KMap (w.alloc (.map #[] 0)) w.heap.size 0 base ok [] :=
  ⟨fun _ => none, fun _ => ByteArray.empty, VAt.made w, by unfold findK; simp, fun x hx => by cases hx⟩
/-- A block of cells of another type is written: the map and its sets stay. -/
theorem KMap.set (h : KMap w b n base ok KS) {p : Nat} {t : TypeId} {cells : Array Value} (hp : w.heap[p]? = some (.cells cells t (0, 0))) (ht : t ≠ 9) (j : Nat) (u : Value) : KMap (w.setCell ⟨p, j, none⟩ u) b n base ok KS := by
  obtain ⟨A, g, h1, h2⟩ := h
  obtain ⟨es, clock, hm⟩ := h1.map
  have hbp : b ≠ p := fun e => by subst e; rw [hm] at hp; cases hp
  refine ⟨A, g, h1.far hbp u, h2.1, fun x hx => ?_⟩
  obtain ⟨r, r1, r2⟩ := h2.2 x hx
  refine ⟨r, r1, k42.M_mono (fun k hk => hk.1) (k42.M_move (fun k hk => ?_) (k42.M_bound r2))⟩
  obtain ⟨_, _, _, q, hq, cells', hc⟩ := hk
  have hkp : k ≠ p := fun e => by
    subst e
    rw [hp] at hc
    have : t = q := by injection (Option.some.inj hc)
    rw [kset_E] at hq
    exact ht (this.trans (by simpa using hq))
  exact Below.heap_setCell w ⟨p, j, none⟩ u k hkp
theorem zeroSetV (w : World) : (zeroValue 42).run Tryz.prog w = .ok (mk6 zero6) w := by kernel_rfl
/-- 'was, is := keys[key]', in whatever world that has grown. -/
theorem KMap.look (h : KMap w b n base ok KS) (key : ByteArray) (hk : key.size ≤ maxLen) :
    (findK KS key = none ∧ ∀ W, w.grownBy W none → (Instr.lookup 56 (.map (some b)) (.string key) true).run Tryz.prog W = .ok (.tuple #[.agg #[.bool false, .bool false, .bool false, .slice none 0 0, .int .i64 0, .int .i64 0], .bool false]) W) ∨
    ∃ x A c, findK KS key = some x ∧ (∀ W, w.grownBy W none → (Instr.lookup 56 (.map (some b)) (.string key) true).run Tryz.prog W = .ok (.tuple #[.agg #[.bool x.f0, .bool x.f1, .bool x.f2, .slice A x.f3.length c, .int .i64 x.f4, .int .i64 x.f5], .bool true]) W) ∧ x.f3.length ≤ c ∧ Kd.C Kd.string w A x.f3.length x.f3 := by
  obtain ⟨A, g, h1, h2⟩ := h
  have hl := fun W (hg : w.grownBy W none) => run_v_look setElem_exact (h1.kept hg (by simp)) 56 42 Tryz.underlying56 (mk6 zero6) (zeroSetV W) (setElem_mk _) key hk
  cases hf : findK KS key with
  | none =>
    rw [(h2.1 key).2 hf] at hl
    exact .inl ⟨rfl, hl⟩
  | some x =>
    obtain ⟨r, r1, r2⟩ := h2.2 _ (findK_some hf)
    have r1' : A key = some (mk6 r) := r1
    rw [r1'] at hl
    obtain ⟨A3, c3, he, l3, g3⟩ := k42_open (k42.K_of_M r2)
    have hm : mk6 r = .agg #[.bool x.f0, .bool x.f1, .bool x.f2, .slice A3 x.f3.length c3, .int .i64 x.f4, .int .i64 x.f5] := congrArg (fun l : List Value => Value.agg l.toArray) he
    rw [hm] at hl
    exact .inr ⟨x, A3, c3, rfl, hl, l3, g3⟩
open Classical in
/-- 'keys[key] = s'. -/
theorem k_put {ops : Array Oper} {rest : List Oper} {o : Oper} {a : Act} {Q : Exit → Act → World → Prop} (h : KMap w b n base ok KS) (hs : SortedK KS) (hg : o.guard = none) (m x v : Operand) (hop : o.op = Op.mapUpdate 56 m x v) (key : ByteArray) (s : S42) (r : Row6) (okn : Nat → Prop)
    (hm : a.eval m = .map (some b)) (hx : a.eval x = .string key) (hv : a.eval v = mk6 r) (hk : key.size ≤ maxLen) (hn : n < maxLen) (hnew : k42.M w base okn s (cells6 r)) (hdis : ∀ k, okn k → ¬ ok k)
    (hK : ∀ w', KMap w' b (n + 1) base (fun k => ok k ∨ okn k) (putK KS key s) → w.grownBy w' (some b) → wpList Tryz.prog ops Q rest (a.put o.dst undef) w') : wpList Tryz.prog ops Q (o :: rest) a w := by
  obtain ⟨A, g, h1, h2⟩ := h
  obtain ⟨es, clock, hbm⟩ := h1.map
  refine v_put h1 hg 56 42 Tryz.underlying56 m x v hop key (mk6 r) hm hx hv (setElem_mk _) hk hn ?_
  intro w' hv' hg'
  have hne : ∀ k cells q, w.heap[k]? = some (.cells cells q (0, 0)) → some k ≠ some b := fun k cells q hc e => by
    have := Option.some.inj e; subst this; rw [hbm] at hc; cases hc
  have h2' := h2.grown hg' (fun k cells _ hc => hne k cells _ hc)
  refine hK w' ⟨putV A key (mk6 r), fun k => if okn k then key else g k, hv', fun y => ?_, fun y hy => ?_⟩ hg'
  · rw [findK_put hs]
    unfold putV
    by_cases e : y = key
    · rw [if_pos e, if_pos e]; simp
    · rw [if_neg e, if_neg e]; exact h2.1 y
  · have hf := findK_mem (sortedK_put hs key s) hy
    rw [findK_put hs] at hf
    by_cases e : y.f0 = key
    · rw [if_pos e] at hf
      have e2 : s = y.f1 := Option.some.inj hf
      refine ⟨r, by unfold putV; rw [if_pos e], ?_⟩
      rw [← e2]
      exact k42.M_mono (fun k hk => ⟨.inr hk, by show (if okn k then key else g k) = y.f0; rw [if_pos hk, e]⟩) (M_grown hnew hg' (fun k cells q _ hc _ => hne k cells q hc))
    · rw [if_neg e] at hf
      obtain ⟨r', r1, r2⟩ := h2'.2 _ (findK_some hf)
      have r1' : A y.f0 = some (mk6 r') := r1
      have r2' : k42.M w' base (fun k => ok k ∧ g k = y.f0) y.f1 (cells6 r') := r2
      refine ⟨r', by unfold putV; rw [if_neg e]; exact r1', k42.M_mono (fun k hk => ⟨.inl hk.1, ?_⟩) r2'⟩
      show (if okn k then key else g k) = y.f0
      rw [if_neg (fun h => hdis k h hk.1)]
      exact hk.2
end
end Go.Proofs.YtblfbdlhphhfnaaGreatDoor.PA
