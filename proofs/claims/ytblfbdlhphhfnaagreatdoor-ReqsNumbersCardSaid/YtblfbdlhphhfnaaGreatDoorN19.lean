import Derived.Test.YtblfbdlhphhfnaaGreatDoorN11
import Derived.Test.YtblfbdlhphhfnaaGreatDoorN18
namespace Go.Proofs.YtblfbdlhphhfnaaGreatDoor.PA
open Go.RowKit Go.Maps Go.Sort Go.Shelf Go.Proofs.YtblfbdlhphhfnaaGreatDoorW.PrintWords Go.Proofs.YtblfbdlhphhfnaaGreatDoorW.PrintLast
set_option linter.unusedVariables false
set_option maxHeartbeats 1000000 in
set_option maxRecDepth 100000 in
theorem valset_rising.calls (b : Nat) (S : List ByteArray) (w : World) (h : SetAt w b S) (hS : S.length * 16 ≤ 140737488355328) :
    Calls Tryz.prog 44 #[.map (some b)] w fun e w' => ∃ v : Value, e = .returned v ∧ Kd.R Kd.string 9 w' w.heap.size (fun _ => True) v S ∧ Below w.heap.size w w' := by
  obtain ⟨D, hown, hi⟩ := h
  have hmax : Maps.size D ≤ maxLen := by rw [hi.size]; unfold maxLen; omega
  have hbytes : Maps.size D * 16 ≤ 140737488355328 := by rw [hi.size]; exact hS
  refine (callsIn_wide (n := 6)).1 ?_
  have hfK : Fence.wide.fn 60 := trivial
  have hfS : Fence.wide.fn 59 := trivial
  refine callsIn_of_wp Tryz.func44 rfl trivial ?_ rfl
  simp only [Tryz.ntmps44, List.size_toArray, List.length_cons, List.length_nil, Nat.reduceAdd, Nat.reduceSub, Array.replicate_succ, Array.replicate_zero, List.push_toArray, List.append_toArray, List.nil_append, List.cons_append]
  gi_wp2_with (first
    | (gi_at_call 60; refine (Tryz.keysAt _ _).mono ?_; rintro e w' ⟨rfl, rfl⟩)
    | (gi_at_call 59; refine (Tryz.sortedAt b _ D _ w hown hmax hbytes).mono ?_; rintro e w' ⟨v, ss, rfl, hP, hrow, hnil, hb⟩))
  go_ret
  obtain ⟨e1, e2⟩ := SetAt.keys hown hi hP
  rw [e1, e2] at hrow
  exact ⟨v, rfl, Kd.R_of_own (own_weaken hrow (by simp)) (fun _ _ => trivial), ((Below.refl _ w).alloc (Nat.le_refl _) _).trans (hb.mono (by simp))⟩
end Go.Proofs.YtblfbdlhphhfnaaGreatDoor.PA
