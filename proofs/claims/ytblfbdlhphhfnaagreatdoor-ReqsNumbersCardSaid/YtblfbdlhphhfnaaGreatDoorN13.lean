import Derived.Test.YtblfbdlhphhfnaaGreatDoorN4
import Derived.Test.YtblfbdlhphhfnaaGreatDoorN5
import Derived.Test.YtblfbdlhphhfnaaGreatDoorN10
import Derived.Test.YtblfbdlhphhfnaaGreatDoorN11
import Derived.Test.YtblfbdlhphhfnaaGreatDoorN12
import Derived.Maps.Views
namespace Go.Proofs.YtblfbdlhphhfnaaGreatDoor.PA
open Go.Proofs.YtblfbdlhphhfnaaGreatDoorW.PrintWords
set_option linter.unusedVariables false
set_option linter.unusedSimpArgs false
def dec (n : Int) : ByteArray := ⟨(Lib.itoa n).toArray⟩
def skipUp (lo hi : Int) (B : List ByteArray) : Int := if h : lo ≤ hi ∧ memS B (dec lo) = true then skipUp (lo + 1) hi B else lo
termination_by (hi + 1 - lo).toNat
decreasing_by omega
def skipDown (lo hi : Int) (B : List ByteArray) : Int := if h : lo ≤ hi ∧ memS B (dec hi) = true then skipDown lo (hi - 1) B else hi
termination_by (hi + 1 - lo).toNat
decreasing_by omega
def within (lo hi : Int) (s : ByteArray) : Bool := match numOf s.data.toList with | some n => decide (lo < n) && decide (n < hi) | none => false
def intRange (lo hi : Int) : List Int := (List.range (hi + 1 - lo).toNat).map fun (i : Nat) => lo + (i : Int)
def rest (lo hi : Int) (B : List ByteArray) : List ByteArray := groupS (((intRange lo hi).map dec).filter fun s => !memS B s)
/-- A set of values, as plain data. -/
structure PSet where
  miss : Bool
  neg : Bool
  num : Bool
  vals : List ByteArray
  lo : Int
  hi : Int
def numbers2 (lo hi : Int) (B : List ByteArray) : PSet × Bool :=
  let B' := B.filter (within lo hi)
  if 64 < hi - lo + 1 - (B'.length : Int) then (⟨false, true, true, B', lo, hi⟩, decide ((B'.length : Int) ≤ 64)) else (⟨false, false, false, rest lo hi B', 0, 0⟩, true)
def numbersP (lo hi : Int) (B : List ByteArray) : PSet × Bool := numbers2 (skipUp lo hi B) (skipDown (skipUp lo hi B) hi B) B
theorem decDigits_len : ∀ (k u : Nat), u < 10 ^ k → 0 < k → (Lib.decDigits u).length ≤ k
  | 0, u, h, hk => absurd hk (by omega)
  | 1, u, h, _ => by rw [Lib.decDigits, dif_pos (by simpa using h)]; simp
  | k + 2, u, h, _ => by
    rw [Lib.decDigits]
    split
    · simp
    · have := decDigits_len (k + 1) (u / 10) (by rw [Nat.pow_succ] at h; omega) (by omega)
      simp; omega
theorem itoa_len {n : Int} (h1 : -1000000000000 ≤ n) (h2 : n ≤ 1000000000000) : (Lib.itoa n).length ≤ 14 := by
  unfold Lib.itoa
  split
  · have := decDigits_len 13 n.natAbs (by omega) (by omega); simp; omega
  · have := decDigits_len 13 n.toNat (by omega) (by omega); omega
theorem dec_size {n : Int} (h1 : -1000000000000 ≤ n) (h2 : n ≤ 1000000000000) : (dec n).size ≤ 14 := by
  have := itoa_len h1 h2
  show (Lib.itoa n).toArray.size ≤ 14
  simpa using this
theorem skipUp_step {lo hi : Int} {B : List ByteArray} (h : lo ≤ hi) (hm : memS B (dec lo) = true) : skipUp lo hi B = skipUp (lo + 1) hi B := by rw [skipUp, dif_pos ⟨h, hm⟩]
theorem skipUp_stop {lo hi : Int} {B : List ByteArray} (h : ¬ lo ≤ hi ∨ memS B (dec lo) = false) : skipUp lo hi B = lo := by
  rw [skipUp, dif_neg]; rintro ⟨h1, h2⟩; rcases h with h | h
  · exact h h1
  · rw [h] at h2; cases h2
theorem skipDown_step {lo hi : Int} {B : List ByteArray} (h : lo ≤ hi) (hm : memS B (dec hi) = true) : skipDown lo hi B = skipDown lo (hi - 1) B := by rw [skipDown, dif_pos ⟨h, hm⟩]
theorem skipDown_stop {lo hi : Int} {B : List ByteArray} (h : ¬ lo ≤ hi ∨ memS B (dec hi) = false) : skipDown lo hi B = hi := by
  rw [skipDown, dif_neg]; rintro ⟨h1, h2⟩; rcases h with h | h
  · exact h h1
  · rw [h] at h2; cases h2
def stillIn (left : Lit → Bool) (lo hi : Int) (s : ByteArray) : Bool := left (.string s.data.toList) || within lo hi s
theorem sameKey_str (x y : ByteArray) : (Lit.string y.data.toList).sameKey (.string x.data.toList) = decide (y = x) := by
  by_cases e : y = x
  · subst e; simp [Lit.sameKey]
  · rw [decide_eq_false e]
    cases h : (Lit.string y.data.toList).sameKey (.string x.data.toList) with
    | false => rfl
    | true => exact absurd (ba_ext (Lit.string.inj (WideAt.sameKey_eq h))) e
theorem filt_keep {B : List ByteArray} {left : Lit → Bool} {lo hi : Int} {x : ByteArray} (hw : within lo hi x = true) :
    B.filter (stillIn left lo hi) = B.filter (stillIn (fun z => left z && !z.sameKey (.string x.data.toList)) lo hi) := by
  apply List.filter_congr
  intro y _
  unfold stillIn
  simp only [sameKey_str]
  by_cases e : y = x
  · subst e; simp [hw]
  · simp [e]
theorem filt_drop {B : List ByteArray} {left : Lit → Bool} {lo hi : Int} {x : ByteArray} (hw : within lo hi x = false) :
    (B.filter (stillIn left lo hi)).filter (fun y => decide (y ≠ x)) = B.filter (stillIn (fun z => left z && !z.sameKey (.string x.data.toList)) lo hi) := by
  rw [List.filter_filter]
  apply List.filter_congr
  intro y _
  unfold stillIn
  simp only [sameKey_str]
  by_cases e : y = x
  · subst e; simp [hw]
  · simp [e]
theorem filt_start {B : List ByteArray} {left : Lit → Bool} {lo hi : Int} (h : ∀ s ∈ B, left (.string s.data.toList) = true) : B.filter (stillIn left lo hi) = B :=
  List.filter_eq_self.2 fun s hs => by unfold stillIn; rw [h s hs]; rfl
theorem filt_end {B : List ByteArray} {left : Lit → Bool} {lo hi : Int} (h : ∀ k, left k = false) : B.filter (stillIn left lo hi) = B.filter (within lo hi) := by
  apply List.filter_congr; intro y _; unfold stillIn; rw [h]; rfl
theorem intRange_length (lo hi : Int) : (intRange lo hi).length = (hi + 1 - lo).toNat := by simp [intRange]
theorem intRange_snoc {lo n : Int} (h : lo ≤ n) : intRange lo n = intRange lo (n - 1) ++ [n] := by
  unfold intRange
  rw [show (n + 1 - lo).toNat = (n - 1 + 1 - lo).toNat + 1 by omega, List.range_succ, List.map_append]
  simp only [List.map_cons, List.map_nil]
  congr 2
  omega
theorem intRange_end {lo hi n : Int} (h : ¬ n ≤ hi) (h2 : n ≤ hi + 1 ∨ n = lo) : intRange lo (n - 1) = intRange lo hi := by
  by_cases e : n = hi + 1
  · rw [e]; congr 1; omega
  · unfold intRange
    rw [show (n - 1 + 1 - lo).toNat = 0 by omega, show (hi + 1 - lo).toNat = 0 by omega]
def restTo (lo n : Int) (B : List ByteArray) : List ByteArray := groupS (((intRange lo (n - 1)).map dec).filter fun s => !memS B s)
theorem restTo_start (lo : Int) (B : List ByteArray) : restTo lo lo B = [] := by
  unfold restTo intRange
  rw [show (lo - 1 + 1 - lo).toNat = 0 by omega]; rfl
theorem restTo_put {lo n : Int} {B : List ByteArray} (h : lo ≤ n) (hm : memS B (dec n) = false) : restTo lo (n + 1) B = putS (restTo lo n B) (dec n) := by
  unfold restTo
  rw [show n + 1 - 1 = n by omega, intRange_snoc h, List.map_append, List.filter_append]
  simp only [List.map_cons, List.map_nil, List.filter_cons, hm, Bool.not_false, if_true, List.filter_nil]
  rw [groupS_snoc]
theorem restTo_skip {lo n : Int} {B : List ByteArray} (h : lo ≤ n) (hm : memS B (dec n) = true) : restTo lo (n + 1) B = restTo lo n B := by
  unfold restTo
  rw [show n + 1 - 1 = n by omega, intRange_snoc h, List.map_append, List.filter_append]
  simp [hm]
theorem restTo_end {lo hi n : Int} {B : List ByteArray} (h : ¬ n ≤ hi) (h2 : n ≤ hi + 1 ∨ n = lo) : restTo lo n B = rest lo hi B := by
  unfold restTo rest; rw [intRange_end h h2]
theorem restTo_length (lo n : Int) (B : List ByteArray) : (restTo lo n B).length ≤ (n - lo).toNat := by
  unfold restTo
  refine Nat.le_trans (length_groupS _) (Nat.le_trans (List.length_filter_le _ _) ?_)
  rw [List.length_map, intRange_length]; omega
/-- The ways through a round. -/
theorem within_cases (lo hi : Int) (s : ByteArray) : (numR s.data.toList = (0, false) ∧ within lo hi s = false) ∨ ∃ n, numR s.data.toList = (n, true) ∧ ((n ≤ lo ∧ within lo hi s = false) ∨ (lo < n ∧ hi ≤ n ∧ within lo hi s = false) ∨ (lo < n ∧ n < hi ∧ within lo hi s = true)) := by
  unfold numR within
  cases numOf s.data.toList with
  | none => left; simp
  | some n =>
    right
    refine ⟨n, rfl, ?_⟩
    by_cases h1 : lo < n
    · by_cases h2 : n < hi
      · right; right; simp [h1, h2]
      · right; left; simp [h1, h2]; omega
    · left; simp [h1]; omega
def isValue (s : ByteArray) : Bool := (numR s.data.toList).2 || isName s.data.toList
def badOp (op : Int) (vals : List ByteArray) (n : Int) : Bool :=
  decide (op < 1) || decide (6 < op) || ((decide (op = 1) || decide (op = 2)) != decide (0 < vals.length)) || (!(decide (op = 5) || decide (op = 6)) && decide (n ≠ 0)) || decide (n < -2147483648) || decide (2147483648 < n)
def wrongP (key : ByteArray) (op : Int) (vals : List ByteArray) (n : Int) : Int :=
  if isName key.data.toList = false then 7
  else if badOp op vals n = true then 30
  else if 8 < vals.length then 3
  else if (vals.any fun s => !isValue s) = true then 20
  else if (groupS vals).length < vals.length then 6 else 0
end Go.Proofs.YtblfbdlhphhfnaaGreatDoor.PA
namespace Go.Proofs.YtblfbdlhphhfnaaGreatDoor.PA
open Go.RowKit Go.Proofs.YtblfbdlhphhfnaaGreatDoorW.PrintWords Go.Proofs.YtblfbdlhphhfnaaGreatDoorW.PrintLast Go.Proofs.YtblfbdlhphhfnaaGreatDoorW.PrintMore
set_option linter.unusedVariables false
set_option linter.unusedSimpArgs false
def valset_Value.f (a0 : ByteArray) : Option (Bool) := (valset_Number.f a0).bind fun bt402 => (if bt402.2 = true then (some true) else ((valset_Name.f a0).bind fun t404 => (some t404)))
set_option maxHeartbeats 8000000 in
set_option maxRecDepth 100000 in
theorem valset_Value.calls (a0 : ByteArray) (r : Bool) (w : World) (hG : GL w) (h : valset_Value.f a0 = some r) :
    Calls Tryz.prog 27 #[.string a0] w fun e w' => e = .returned (.bool r) ∧ Below w.heap.size w w' := by
  have HB := Aside0.mk (Below.refl w.heap.size w)
  have H : ((valset_Number.f a0).bind fun bt402 => (if bt402.2 = true then (some true) else ((valset_Name.f a0).bind fun t404 => (some t404)))) = some r := h
  clear h
  replace H := Option.bind_eq_some_iff.mp H
  obtain ⟨⟨t402, t403⟩, A20, H⟩ := H
  replace H : (if t403 = true then (some true) else ((valset_Name.f a0).bind fun t404 => (some t404))) = some r := H
  have A2 := Aside0.mk A20
  clear A20
  by_cases c3 : t403 = true
  · subst c3
    have H1 : (some true) = some r := by rw [if_pos rfl] at H; exact H
    clear H
    have H := H1
    clear H1
    obtain rfl := Option.some.inj H
    go_enter Tryz.func27, Tryz.ntmps27
    go_wp2_with (first | ((with_reducible refine gate_callee (f := 49) rfl ?_); refine goesL_ (some 7) rfl rfl Tryz.func49 (by kernel_rfl) rfl #[.string a0] rfl (by (try simp only [List.map_toArray, List.map_cons, List.map_nil]); first | done | rfl | (simp only [List.length_drop, List.length_take]; rfl)) ?_; (with_reducible refine (valset_Number.calls a0 t402 true _ ?side1 A2.out).mono ?_); (case side1 => exact GL.of_below hG (by repeat (first | (with_reducible first | exact HB.out | apply below_alloc | apply pw_below_drewN | apply below_drew1) | exact HB.out))); rintro e w4 ⟨rfl, hb⟩; refine ⟨_, rfl, ?_⟩; have n0_ := Aside0.mk (below_step (by repeat (first | (with_reducible first | exact HB.out | apply below_alloc | apply pw_below_drewN | apply below_drew1) | exact HB.out)) hb); clear HB; have HB := n0_; clear n0_; (try clear hb); (try clear hb2); (try clear hk); (try clear hi)))
    go_ret
    exact ⟨by first | rfl | (simp [errW_none, errW_some] <;> rfl) | (simp [*, errW_none, errW_some] <;> rfl), by repeat (first | (with_reducible first | exact HB.out | apply below_alloc | apply pw_below_drewN | apply below_drew1) | exact HB.out)⟩
  · replace c3 := Bool.eq_false_iff.mpr c3
    subst c3
    have H1 : ((valset_Name.f a0).bind fun t404 => (some t404)) = some r := by rw [if_neg (show ¬ (false = true) by decide)] at H; exact H
    clear H
    have H := H1
    clear H1
    replace H := Option.bind_eq_some_iff.mp H
    obtain ⟨t404, A50, H⟩ := H
    replace H : (some t404) = some r := H
    have A5 := Aside0.mk A50
    clear A50
    obtain rfl := Option.some.inj H
    go_enter Tryz.func27, Tryz.ntmps27
    go_wp2_with (first | ((with_reducible refine gate_callee (f := 49) rfl ?_); refine goesL_ (some 7) rfl rfl Tryz.func49 (by kernel_rfl) rfl #[.string a0] rfl (by (try simp only [List.map_toArray, List.map_cons, List.map_nil]); first | done | rfl | (simp only [List.length_drop, List.length_take]; rfl)) ?_; (with_reducible refine (valset_Number.calls a0 t402 false _ ?side1 A2.out).mono ?_); (case side1 => exact GL.of_below hG (by repeat (first | (with_reducible first | exact HB.out | apply below_alloc | apply pw_below_drewN | apply below_drew1) | exact HB.out))); rintro e w6 ⟨rfl, hb⟩; refine ⟨_, rfl, ?_⟩; have n0_ := Aside0.mk (below_step (by repeat (first | (with_reducible first | exact HB.out | apply below_alloc | apply pw_below_drewN | apply below_drew1) | exact HB.out)) hb); clear HB; have HB := n0_; clear n0_; (try clear hb); (try clear hb2); (try clear hk); (try clear hi)) | (go_at_call 26; (with_reducible refine (valset_Name.calls a0 t404 _ A5.out).mono ?_); rintro e w7 ⟨rfl, hb⟩; have n0_ := Aside0.mk (below_step (by repeat (first | (with_reducible first | exact HB.out | apply below_alloc | apply pw_below_drewN | apply below_drew1) | exact HB.out)) hb); clear HB; have HB := n0_; clear n0_; (try clear hb); (try clear hb2); (try clear hk); (try clear hi)))
    go_ret
    exact ⟨by first | rfl | (simp [errW_none, errW_some] <;> rfl) | (simp [*, errW_none, errW_some] <;> rfl), by repeat (first | (with_reducible first | exact HB.out | apply below_alloc | apply pw_below_drewN | apply below_drew1) | exact HB.out)⟩
end Go.Proofs.YtblfbdlhphhfnaaGreatDoor.PA
