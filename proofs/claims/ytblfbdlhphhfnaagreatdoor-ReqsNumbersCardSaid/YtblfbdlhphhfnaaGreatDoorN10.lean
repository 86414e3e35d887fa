import Derived.Test.YtblfbdlhphhfnaaGreatDoorN9
import Derived.Maps.OwnSet
import Derived.Maps.Ext
import Derived.Sort.KeysCollected
import Derived.Sort.Walk0
namespace Go.Proofs.YtblfbdlhphhfnaaGreatDoor.PA
open Go.RowKit Go.Maps Go.Sort Go.Proofs.YtblfbdlhphhfnaaGreatDoorW.PrintWords Go.Proofs.YtblfbdlhphhfnaaGreatDoorW.PrintLast
set_option linter.unusedVariables false
set_option linter.unusedSimpArgs false
def ltS (x y : ByteArray) : Bool := Op.bytesLess x.data.toList y.data.toList
theorem ltS_iff (x y : ByteArray) : ltS x y = true ↔ x.data.toList < y.data.toList := by unfold ltS; rw [bytesLess_eq]; exact decide_eq_true_iff
theorem ba_ext {x y : ByteArray} (h : x.data.toList = y.data.toList) : x = y := by cases x; cases y; congr; exact Array.toList_inj.1 h
def putS : List ByteArray → ByteArray → List ByteArray
  | [], s => [s]
  | x :: r, s => if ltS x s then x :: putS r s else if x = s then x :: r else s :: x :: r
def groupS (l : List ByteArray) : List ByteArray := l.foldl putS []
def SortedS (S : List ByteArray) : Prop := S.Pairwise fun x y => ltS x y = true
theorem mem_putS (S : List ByteArray) (s x : ByteArray) : x ∈ putS S s ↔ x ∈ S ∨ x = s := by
  induction S with
  | nil => simp [putS]
  | cons y r ih =>
    unfold putS
    by_cases h : ltS y s = true
    · simp only [h, if_true, List.mem_cons, ih]; grind
    · by_cases e : y = s
      · simp only [h, e, if_true, List.mem_cons]; grind
      · simp only [h, e, if_false, List.mem_cons]; grind
theorem ltS_trans {x y z : ByteArray} (h : ltS x y = true) (k : ltS y z = true) : ltS x z = true := by
  rw [ltS_iff] at *; exact List.lt_trans h k
theorem ltS_irrefl (x : ByteArray) : ltS x x = false := by
  cases h : ltS x x with
  | false => rfl
  | true => rw [ltS_iff] at h; exact absurd h (List.lt_irrefl _)
theorem ltS_total {x y : ByteArray} (h : ltS x y = false) (hne : x ≠ y) : ltS y x = true := by
  rw [ltS_iff]
  have h' : ¬ x.data.toList < y.data.toList := by rw [← ltS_iff, h]; simp
  exact Decidable.byContradiction fun hn => hne (ba_ext (List.le_antisymm (List.not_lt.1 hn) (List.not_lt.1 h')))
theorem sorted_putS {S : List ByteArray} (h : SortedS S) (s : ByteArray) : SortedS (putS S s) := by
  induction S with
  | nil => simp [putS, SortedS]
  | cons y r ih =>
    have h1 := List.pairwise_cons.1 h
    unfold putS
    by_cases hl : ltS y s = true
    · rw [if_pos hl]
      refine List.pairwise_cons.2 ⟨fun z hz => ?_, ih h1.2⟩
      rcases (mem_putS r s z).1 hz with hz | rfl
      · exact h1.1 z hz
      · exact hl
    · rw [if_neg hl]
      by_cases e : y = s
      · rw [if_pos e]; exact h
      · rw [if_neg e]
        have hsy := ltS_total (by simpa using hl) e
        refine List.pairwise_cons.2 ⟨fun z hz => ?_, h⟩
        rcases List.mem_cons.1 hz with rfl | hz
        · exact hsy
        · exact ltS_trans hsy (h1.1 z hz)
theorem sorted_nodup {S : List ByteArray} (h : SortedS S) : S.Nodup :=
  h.imp fun {x y} hxy e => by subst e; rw [ltS_irrefl] at hxy; cases hxy
theorem putS_of_mem {S : List ByteArray} (h : SortedS S) {s : ByteArray} (hm : s ∈ S) : putS S s = S := by
  induction S with
  | nil => cases hm
  | cons y r ih =>
    have h1 := List.pairwise_cons.1 h
    unfold putS
    by_cases hl : ltS y s = true
    · rw [if_pos hl]
      rcases List.mem_cons.1 hm with rfl | hm
      · rw [ltS_irrefl] at hl; cases hl
      · rw [ih h1.2 hm]
    · rw [if_neg hl]
      rcases List.mem_cons.1 hm with rfl | hm
      · rw [if_pos rfl]
      · exact absurd (h1.1 s hm) hl
theorem length_putS_new (S : List ByteArray) {s : ByteArray} (hm : s ∉ S) : (putS S s).length = S.length + 1 := by
  induction S with
  | nil => rfl
  | cons y r ih =>
    unfold putS
    by_cases hl : ltS y s = true
    · rw [if_pos hl, List.length_cons, ih (fun h => hm (List.mem_cons_of_mem _ h)), List.length_cons]
    · rw [if_neg hl, if_neg (fun e => hm (by rw [e]; exact List.mem_cons_self))]; rfl
theorem length_putS_le (S : List ByteArray) (s : ByteArray) : (putS S s).length ≤ S.length + 1 := by
  induction S with
  | nil => simp [putS]
  | cons y r ih =>
    unfold putS
    by_cases hl : ltS y s = true
    · rw [if_pos hl]; simp; omega
    · rw [if_neg hl]; by_cases e : y = s
      · rw [if_pos e]; simp
      · rw [if_neg e]; simp
def memS (S : List ByteArray) (s : ByteArray) : Bool := S.any fun x => decide (x = s)
theorem memS_iff (S : List ByteArray) (s : ByteArray) : memS S s = true ↔ s ∈ S := by
  unfold memS
  simp
theorem memS_putS (S : List ByteArray) (s x : ByteArray) : memS (putS S s) x = (memS S x || decide (x = s)) := by
  rw [Bool.eq_iff_iff, memS_iff, mem_putS, Bool.or_eq_true, memS_iff, decide_eq_true_iff]
theorem groupS_snoc (l : List ByteArray) (s : ByteArray) : groupS (l ++ [s]) = putS (groupS l) s := by simp [groupS, List.foldl_append]
theorem foldS_length (l : List ByteArray) : ∀ T : List ByteArray, (l.foldl putS T).length ≤ T.length + l.length := by
  induction l with
  | nil => intro T; simp
  | cons s r ih => intro T; have h1 := ih (putS T s); have h2 := length_putS_le T s; simp only [List.foldl_cons, List.length_cons]; omega
theorem foldS_mem (x : ByteArray) (l : List ByteArray) : ∀ T : List ByteArray, x ∈ l.foldl putS T ↔ x ∈ T ∨ x ∈ l := by
  induction l with
  | nil => intro T; simp
  | cons s r ih => intro T; rw [List.foldl_cons, ih, mem_putS, List.mem_cons]; grind
theorem length_groupS (l : List ByteArray) : (groupS l).length ≤ l.length := by have := foldS_length l []; simpa [groupS] using this
theorem mem_groupS (l : List ByteArray) (x : ByteArray) : x ∈ groupS l ↔ x ∈ l := by unfold groupS; rw [foldS_mem]; simp
end Go.Proofs.YtblfbdlhphhfnaaGreatDoor.PA
