import Derived.Test.YtblfbdlhphhfnaaGreatDoorN5
import Derived.Test.YtblfbdlhphhfnaaGreatDoorN7
import Derived.Test.YtblfbdlhphhfnaaGreatDoorN11
import Derived.Test.YtblfbdlhphhfnaaGreatDoorN13
import Derived.Deep.RegionHeld3
namespace Go.Proofs.YtblfbdlhphhfnaaGreatDoor.PA
open Go.RowKit Go.Maps Go.Sort Go.Shelf Go.Proofs.YtblfbdlhphhfnaaGreatDoorW.PrintWords Go.Proofs.YtblfbdlhphhfnaaGreatDoorW.PrintLast
set_option linter.unusedVariables false
set_option linter.unusedSimpArgs false
theorem Value_pure (s : ByteArray) (hs : s.size ≤ 140737488351232) : valset_Value.f s = some (isValue s) := by
  unfold valset_Value.f valset_Number.f valset_Name.f isValue
  rw [if_pos hs, if_pos hs]
  cases h : (numR s.data.toList).2 <;> simp [h]
theorem Value_calls (s : ByteArray) (hs : s.size ≤ 140737488351232) (w : World) (hG : GL w) : Calls Tryz.prog 27 #[.string s] w fun e w' => e = .returned (.bool (isValue s)) ∧ Below w.heap.size w w' :=
  valset_Value.calls s _ w hG (Value_pure s hs)
set_option maxHeartbeats 400000 in
theorem wrong1 (s : ByteArray) (hs : s.size ≤ 140737488351232) (w : World) (hG : GL w) : Calls Tryz.prog 83 #[.string s] w fun e w' => e = .returned (.bool (!isValue s)) ∧ Below w.heap.size w w' := by
  have h := Value_calls s hs w hG
  generalize isValue s = b at h ⊢
  go_enter Tryz.func83, Tryz.ntmps83
  go_wp2_with (go_at_call 27; refine h.mono ?_; rintro e w' ⟨rfl, hb⟩)
  go_ret
  exact ⟨rfl, hb⟩
theorem wrong_any (A : Option Addr) (c : Nat) (l : List ByteArray) (w0 w : World) (hr : Kd.C Kd.string w A l.length l) (hc : l.length ≤ c) (hs : ∀ s ∈ l, s.size ≤ 140737488351232) (hG : GL w) :
    Calls Tryz.prog 82 #[.slice A l.length c, .func (.func 83) #[] #[]] w fun e w' => e = .returned (.bool (l.any fun s => !isValue s)) ∧ Below w.heap.size w w' :=
  containsFuncS 83 #[] (enters_of Tryz.func83 (by kernel_rfl) rfl) A c l _ w hr hc fun W x hx hb => (wrong1 x (hs x hx) W (GL.of_below hG hb)).mono fun e w' ⟨he, hb2⟩ => ⟨he, below_then hb hb.size hb2⟩
set_option maxHeartbeats 4000000 in
set_option maxRecDepth 100000 in
theorem wrong_op1 (key : ByteArray) (A : Option Addr) (c : Nat) (vals : List ByteArray) (w : World) (hr : Kd.C Kd.string w A vals.length vals) (hc : vals.length ≤ c) (hk : key.size ≤ 140737488351232) (hs : ∀ s ∈ vals, s.size ≤ 140737488351232) (hG : GL w) (hN : isName key.data.toList = true) (hlen : 0 < vals.length) :
    Calls Tryz.prog 57 #[.agg #[.string key, .int .i64 1, .slice A vals.length c, .int .i64 0]] w fun e w' => e = .returned (.int .i64 (wrongP key 1 vals 0)) ∧ Below w.heap.size w w' := by
  have hname := fun W => valset_Name.calls key (isName key.data.toList) W (by unfold valset_Name.f; rw [if_pos hk])
  have HR := Lib.hid hr
  have hnl : vals.length ≤ 9223372036854775807 := hr.2.1
  clear hr
  rw [hN] at hname
  have HN := Lib.hid hN; clear hN
  go_enter Tryz.func57, Tryz.ntmps57
  go_wp2_with (first
    | (go_at_call 26; refine (hname _).mono ?_; rintro e w2 ⟨rfl, hb⟩; obtain ⟨hcl, hfr⟩ := bcell hb; have hb1 := below_then ((Below.refl w.heap.size w).alloc (Nat.le_refl _) _) (by simp) hb; have hz : w.heap.size < w2.heap.size := by (have := hb.size; simp at this; omega))
    | (go_at_call 82; refine (wrong_any A c vals w _ (Kd.C_below HR.out hb1) hc hs (GL.of_below hG hb1)).mono ?_; rintro e w3 ⟨rfl, hb3⟩; obtain ⟨hcl3, hfr3⟩ := bcell hb3; have hz3 := hb3.size))
  all_goals first
    | omega
    | (go_ret; refine ⟨congrArg (fun z => Ending.returned (Value.int .i64 z)) ?_, by first | exact hb1 | exact below_then hb1 hb1.size hb3⟩; unfold wrongP badOp; rw [HN.out]; (first | (have hq : 8 < vals.length := by omega) | (have hq : ¬ 8 < vals.length := by omega)); simp [*])
    | (have hcell : w3.cell? ⟨w.heap.size, 2, none⟩ = some (.slice A vals.length c) := by (rw [hcl3 _ _ hz, hcl _ _ (by simp)]; simp)
       have hb5 := below_then hb1 hb1.size hb3
       have hz5 : w.heap.size < w3.heap.size := by omega
       have hcellA : ∀ o, (w3.alloc o).cell? ⟨w.heap.size, 2, none⟩ = some (.slice A vals.length c) := fun o => pw_cell_below ((Below.refl _ w3).alloc (Nat.le_refl _) _) hcell
       go_region_with (first | (go_at_call 42; refine (group_one _ (by first | exact heap_alloc_new _ _ | exact blk_drew (heap_alloc_new _ _)) (by first | exact Kd.C_below HR.out (hb5.alloc hb5.size _) | exact Kd.C_below HR.out (below_drew (hb5.alloc hb5.size _))) hc hs (by omega)).mono ?_; rintro e w4 ⟨b, rfl, hge, hset, hb4⟩; have hln := fun ty => run_set_len hset ty; have hS4 : w4.cell? ⟨w.heap.size, 2, none⟩ = some (.slice A vals.length c) := pw_cell_below hb4 (by first | exact pw_cell_below ((Below.refl _ w3).alloc (Nat.le_refl _) _) hcell | exact pw_cell_below (below_drew ((Below.refl _ w3).alloc (Nat.le_refl _) _)) hcell)))
       all_goals (go_wp2_with fail)
       all_goals (go_ret)
       all_goals (refine ⟨congrArg (fun z => Ending.returned (Value.int .i64 z)) ?_, by first | exact below_then hb5 hb5.size (below_then (below_drew ((Below.refl _ w3).alloc (Nat.le_refl _) _)) (by simp) hb4) | exact below_then hb5 hb5.size (below_then ((Below.refl _ w3).alloc (Nat.le_refl _) _) (by simp) hb4)⟩; unfold wrongP badOp; rw [HN.out]; (first | (have hq : 8 < vals.length := by omega) | (have hq : ¬ 8 < vals.length := by omega)); simp [*]))
end Go.Proofs.YtblfbdlhphhfnaaGreatDoor.PA
namespace Go.Proofs.YtblfbdlhphhfnaaGreatDoor.PA
open Go.RowKit Go.Proofs.YtblfbdlhphhfnaaGreatDoorW.PrintWords Go.Proofs.YtblfbdlhphhfnaaGreatDoorW.PrintLast
section
variable {W w0 : World} {g t B : Nat} {c0 c1 c2 c3 c4 c5 : Value}
theorem six_facts (h : W.heap[g]? = some (.cells #[c0, c1, c2, c3, c4, c5] t (0, 0))) :
    (W.cell? ⟨g, 0, none⟩ = some c0 ∧ W.cell? ⟨g, 1, none⟩ = some c1 ∧ W.cell? ⟨g, 2, none⟩ = some c2 ∧ W.cell? ⟨g, 3, none⟩ = some c3 ∧ W.cell? ⟨g, 4, none⟩ = some c4 ∧ W.cell? ⟨g, 5, none⟩ = some c5) ∧
    (W.frozen? ⟨g, 0, none⟩ = false ∧ W.frozen? ⟨g, 1, none⟩ = false ∧ W.frozen? ⟨g, 2, none⟩ = false ∧ W.frozen? ⟨g, 3, none⟩ = false ∧ W.frozen? ⟨g, 4, none⟩ = false ∧ W.frozen? ⟨g, 5, none⟩ = false) :=
  ⟨⟨(blk_cell h 0).trans rfl, (blk_cell h 1).trans rfl, (blk_cell h 2).trans rfl, (blk_cell h 3).trans rfl, (blk_cell h 4).trans rfl, (blk_cell h 5).trans rfl⟩, ⟨blk_frozen h 0, blk_frozen h 1, blk_frozen h 2, blk_frozen h 3, blk_frozen h 4, blk_frozen h 5⟩⟩
def six (W : World) (g : Nat) (v0 v1 v2 v3 v4 v5 : Value) : World := (((((W.setCell ⟨g, 0, none⟩ v0).setCell ⟨g, 1, none⟩ v1).setCell ⟨g, 2, none⟩ v2).setCell ⟨g, 3, none⟩ v3).setCell ⟨g, 4, none⟩ v4).setCell ⟨g, 5, none⟩ v5
theorem six_put (h : W.heap[g]? = some (.cells #[c0, c1, c2, c3, c4, c5] t (0, 0))) (v0 v1 v2 v3 v4 v5 : Value) : (six W g v0 v1 v2 v3 v4 v5).heap[g]? = some (.cells #[v0, v1, v2, v3, v4, v5] t (0, 0)) :=
  blk_put (blk_put (blk_put (blk_put (blk_put (blk_put h 0 v0 rfl) 1 v1 rfl) 2 v2 rfl) 3 v3 rfl) 4 v4 rfl) 5 v5 rfl
theorem six_below (h : Below B w0 W) (hg : B ≤ g) (v0 v1 v2 v3 v4 v5 : Value) : Below B w0 (six W g v0 v1 v2 v3 v4 v5) :=
  (((((h.setCell (p := ⟨g, 0, none⟩) hg v0).setCell (p := ⟨g, 1, none⟩) hg v1).setCell (p := ⟨g, 2, none⟩) hg v2).setCell (p := ⟨g, 3, none⟩) hg v3).setCell (p := ⟨g, 4, none⟩) hg v4).setCell (p := ⟨g, 5, none⟩) hg v5
theorem six_R {α : Type} {d : Kd α} {e : Nat} {base : Nat} {ok : Nat → Prop} {v : Value} {xs : List α} (h : W.heap[g]? = some (.cells #[c0, c1, c2, c3, c4, c5] t (0, 0))) (ht : ∀ q, q ∈ e :: d.E → q ≠ t) (hR : d.R e W base ok v xs) (v0 v1 v2 v3 v4 v5 : Value) :
    d.R e (six W g v0 v1 v2 v3 v4 v5) base ok v xs :=
  Kd.R_mono (Kd.R_far (p := ⟨g, 5, none⟩) (Kd.R_far (p := ⟨g, 4, none⟩) (Kd.R_far (p := ⟨g, 3, none⟩) (Kd.R_far (p := ⟨g, 2, none⟩) (Kd.R_far (p := ⟨g, 1, none⟩) (Kd.R_far (p := ⟨g, 0, none⟩) (Kd.R_types hR h ht) (fun _ hk => hk.2) v0) (fun _ hk => hk.2) v1) (fun _ hk => hk.2) v2) (fun _ hk => hk.2) v3) (fun _ hk => hk.2) v4) (fun _ hk => hk.2) v5) (fun _ hk => hk.1)
end
end Go.Proofs.YtblfbdlhphhfnaaGreatDoor.PA
