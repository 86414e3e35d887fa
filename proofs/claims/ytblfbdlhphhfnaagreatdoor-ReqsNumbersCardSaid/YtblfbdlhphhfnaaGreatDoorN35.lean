import Derived.Test.YtblfbdlhphhfnaaGreatDoorN7
import Derived.Test.YtblfbdlhphhfnaaGreatDoorN32
import Derived.Test.YtblfbdlhphhfnaaGreatDoorN34
namespace Go.Proofs.YtblfbdlhphhfnaaGreatDoor.PA
open Go.RowKit Go.Maps Go.Sort Go.Shelf Go.Proofs.YtblfbdlhphhfnaaGreatDoorW.PrintWords Go.Proofs.YtblfbdlhphhfnaaGreatDoorW.PrintLast
set_option linter.unusedVariables false
set_option linter.unusedSimpArgs false
set_option maxHeartbeats 400000 in
set_option maxRecDepth 100000 in
theorem can1 (x : S44) (A4 : Option Addr) (c4 : Nat) (w : World) (hx : SmallV x.f1.f3) (hc : x.f1.f3.length ≤ c4) (hr : Kd.C Kd.string w A4 x.f1.f3.length x.f1.f3) (hG : GL w) :
    Calls Tryz.prog 35 #[.agg #[.string x.f0, .bool x.f1.f0, .bool x.f1.f1, .bool x.f1.f2, .slice A4 x.f1.f3.length c4, .int .i64 x.f1.f4, .int .i64 x.f1.f5]] w fun e w' => e = .returned (.bool (setEmpty (sP x.f1))) ∧ Below w.heap.size w w' := by
  have he := fun W (hW : Below w.heap.size w W) => valset_Empty.calls x.f1.f0 x.f1.f1 x.f1.f2 A4 c4 x.f1.f3 x.f1.f4 x.f1.f5 (setEmpty (sP x.f1)) W (Kd.C_below hr hW) hc (GL.of_below hG hW) (empty_f x.f1 hx)
  generalize setEmpty (sP x.f1) = b at he ⊢
  have hb2 : Below w.heap.size w (w.alloc (.cells #[.string x.f0, .bool x.f1.f0, .bool x.f1.f1, .bool x.f1.f2, .slice A4 x.f1.f3.length c4, .int .i64 x.f1.f4, .int .i64 x.f1.f5] 44)) := (Below.refl _ _).alloc (Nat.le_refl _) _
  clear hr
  go_enter Tryz.func35, Tryz.ntmps35
  go_wp2_with (go_at_call 36; refine (he _ hb2).mono ?_; rintro e w' ⟨rfl, hb⟩)
  go_ret
  exact ⟨rfl, below_then hb2 hb2.size hb⟩
set_option maxHeartbeats 1000000 in
set_option maxRecDepth 100000 in
theorem indexFuncK (A : Option Addr) (c : Nat) (l : List S44) (w : World) (hr : Kd.C k44 w A l.length l) (hc : l.length ≤ c) (hs : SmallK l) (hG : GL w) :
    Calls Tryz.prog 55 #[.slice A l.length c, .func (.func 35) #[] #[]] w fun e w' => e = .returned (.int .i64 (idxP (fun x => setEmpty (sP x.f1)) l 0)) ∧ Below w.heap.size w w' := by
  have eg : ∀ args w, (callFunc 35 args).run Tryz.prog w = .ok (.enter 35 args) w := enters_of Tryz.func35 (by kernel_rfl) rfl
  have hnl : l.length ≤ 9223372036854775807 := hr.2.1
  have HR := Lib.hid hr; clear hr
  have HS := Lib.hid hs; clear hs
  go_enter Tryz.func55, Tryz.ntmps55
  go_wp2
  go_loopw [5, 8] (fun _ i wr => ∃ k : Nat, k ≤ l.length ∧ i = .int .i64 k ∧ Hid (idxP (fun x => setEmpty (sP x.f1)) l 0 = idxP (fun x => setEmpty (sP x.f1)) (l.drop k) k) ∧ Below w.heap.size w wr) (fun _ i _ => l.length - (intOf i).toNat)
  case atStart => exact ⟨0, Nat.zero_le _, rfl, Lib.hid rfl, Below.refl _ _⟩
  case round =>
    obtain ⟨k, hk, rfl, HI, hb⟩ := hrel
    by_cases hlt : k < l.length
    · obtain ⟨ad, A4, c4, rfl, s0, s1, s2, s3, s4, s5, s6, l4, g4⟩ := at_T44 HR.out (k : Int) (by omega) (by omega)
      obtain ⟨x, ex⟩ : ∃ x, x = rd_T44 l k := ⟨_, rfl⟩
      rw [← ex] at s0 s1 s2 s3 s4 s5 s6 l4 g4
      rw [Int.toNat_natCast] at s0 s1 s2 s3 s4 s5 s6
      replace s0 := pw_cell_below hb s0
      replace s1 := pw_cell_below hb s1
      replace s2 := pw_cell_below hb s2
      replace s3 := pw_cell_below hb s3
      replace s4 := pw_cell_below hb s4
      replace s5 := pw_cell_below hb s5
      replace s6 := pw_cell_below hb s6
      have e1 : rd_T44 l k = l[k] := by simp [rd_T44, List.getD_eq_getElem?_getD, List.getElem?_eq_getElem hlt]
      have hsx : SmallV x.f1.f3 := HS.out x (by rw [ex, e1]; exact List.getElem_mem _)
      have hcall := can1 x A4 c4 wr hsx l4 (Kd.C_below g4 hb) (GL.of_below hG hb)
      have hd : idxP (fun x => setEmpty (sP x.f1)) (l.drop k) k = if setEmpty (sP x.f1) then (k : Int) else idxP (fun x => setEmpty (sP x.f1)) (l.drop (k + 1)) ((k : Int) + 1) := by
        rw [List.drop_eq_getElem_cons hlt, idxP, ex, e1]
      have HD := Lib.hid hd
      clear hd e1 ex hsx g4
      cases hq : setEmpty (sP x.f1) with
      | true =>
        rw [hq] at hcall
        have HQ := Lib.hid hq; clear hq
        go_wp2_with (go_at_fn 35; refine hcall.mono ?_; rintro e w' ⟨rfl, hb'⟩)
        go_ret
        exact ⟨by rw [HI.out, HD.out, HQ.out]; rfl, below_then hb hb.size hb'⟩
      | false =>
        rw [hq] at hcall
        have HQ := Lib.hid hq; clear hq
        go_wp2_with (go_at_fn 35; refine hcall.mono ?_; rintro e w' ⟨rfl, hb'⟩)
        go_roundw
        case rel => exact ⟨k + 1, by omega, by go_num, Lib.hid (by rw [HI.out, HD.out, HQ.out]; simp), below_then hb hb.size hb'⟩
        case measure => show l.length - ((k : Int) + 1).toNat < l.length - (k : Int).toNat; omega
    · have hke : k = l.length := by omega
      subst hke
      go_wp2
      go_ret
      exact ⟨by rw [HI.out, List.drop_length]; rfl, hb⟩
set_option maxHeartbeats 1000000 in
theorem containsFuncK (A : Option Addr) (c : Nat) (l : List S44) (w : World) (hr : Kd.C k44 w A l.length l) (hc : l.length ≤ c) (hs : SmallK l) (hG : GL w) :
    Calls Tryz.prog 34 #[.slice A l.length c, .func (.func 35) #[] #[]] w fun e w' => e = .returned (.bool (l.any fun x => setEmpty (sP x.f1))) ∧ Below w.heap.size w w' := by
  rw [← idxP_any (fun x => setEmpty (sP x.f1)) l 0 (Int.le_refl _)]
  have h := indexFuncK A c l w hr hc hs hG
  clear hr hs
  generalize idxP (fun x : S44 => setEmpty (sP x.f1)) l 0 = r at h ⊢
  go_enter Tryz.func34, Tryz.ntmps34
  go_wp2_with (go_at_call 55; refine h.mono ?_; rintro e w' ⟨rfl, hb'⟩)
  go_ret
  exact ⟨rfl, hb'⟩
def canP (l : List S25) : Bool × Int := if (SetsP l).2 = 0 then (!((SetsP l).1.any fun x => setEmpty (sP x.f1)), 0) else (false, (SetsP l).2)
theorem keysP_small : ∀ (l : List S25) (all : List S42) (KS : List S44), (∀ x ∈ all, SmallV x.f3) → SmallK KS → SmallK (keysP l all KS).1
  | [], all, KS, _, hk => by cases all <;> exact hk
  | r :: l, [], KS, _, hk => hk
  | r :: l, s :: all, KS, ha, hk => by
    have hss := ha s List.mem_cons_self
    have hrest : ∀ x ∈ all, SmallV x.f3 := fun x hx => ha x (List.mem_cons_of_mem _ hx)
    unfold keysP
    cases hf : findK KS r.f0 with
    | none => exact keysP_small l all _ hrest (smallK_put hk r.f0 hss)
    | some was =>
      dsimp only
      split
      · exact keysP_small l all _ hrest (smallK_put hk r.f0 (meetP_small (x := sP was) (y := sP s) (hk _ (findK_some hf)) hss))
      · intro x hx; cases hx
theorem SetsP_small {l : List S25} (hs : SmallR l) : SmallK (SetsP l).1 := by
  unfold SetsP
  split
  · rename_i h0
    obtain ⟨_, hall⟩ := setsP_ok h0
    exact keysP_small _ _ _ (fun x hx => small_set hs (by rw [← hall]; exact hx)) (fun x hx => by cases hx)
  · intro x hx; cases hx
set_option maxHeartbeats 1000000 in
set_option maxRecDepth 100000 in
theorem can_walk (A : Option Addr) (c : Nat) (l : List S25) (w : World) (hr : Kd.C k25 w A l.length l) (hc : l.length ≤ c) (hG : GL w) (hs : SmallR l) :
    Calls Tryz.prog 15 #[.slice A l.length c] w fun e w' => e = .returned (.tuple #[.bool (canP l).1, .int .i64 (canP l).2]) ∧ Below w.heap.size w w' := by
  have hsets := sets_walk A c l w hr hc hG hs
  have hsm := SetsP_small hs
  unfold canP
  obtain ⟨p, hp⟩ : ∃ p, SetsP l = p := ⟨_, rfl⟩
  rw [hp] at hsets hsm ⊢
  clear hp
  obtain ⟨KS, E⟩ := p
  dsimp only at hsets hsm ⊢
  have HSM := Lib.hid hsm
  clear hsm hs hr
  by_cases h0 : E = 0
  · subst h0
    rw [if_pos rfl]
    generalize hb : (KS.any fun x => setEmpty (sP x.f1)) = b
    have HB := Lib.hid hb; clear hb
    go_enter Tryz.func15, Tryz.ntmps15
    go_wp2_with (first
      | (go_at_call 8; refine hsets.mono ?_; rintro e w1 ⟨v, rfl, hS, hb1⟩; obtain ⟨Av, cv, rfl, hcv, hC⟩ := Kd.R_reads (Kd.S_R hS))
      | (go_at_call 34; refine (containsFuncK Av cv KS w1 hC hcv HSM.out (GL.of_below hG hb1)).mono ?_; rintro e w2 ⟨rfl, hb2⟩; rw [HB.out]))
    go_ret2
    exact ⟨rfl, below_then hb1 hb1.size hb2⟩
  · rw [if_neg h0]
    have hq : (E != 0) = true := by simpa using h0
    clear h0
    go_enter Tryz.func15, Tryz.ntmps15
    go_wp2_with (first
      | (go_at_call 8; refine hsets.mono ?_; rintro e w1 ⟨v, rfl, hS, hb1⟩))
    go_ret2
    exact ⟨rfl, hb1⟩
def reqs_Can.f (l : List S25) : Option (Bool × Int) := if smallRB l = true then some (canP l) else none
theorem reqs_Can.calls (A0 : Option Addr) (c0 : Nat) (l0 : List S25) (r1 : Bool) (r2 : Int) (w : World) (hr0 : Kd.C k25 w A0 l0.length l0) (hc0 : l0.length ≤ c0) (hG : GL w) (h : reqs_Can.f l0 = some (r1, r2)) :
    Calls Tryz.prog 15 #[.slice A0 l0.length c0] w fun e w' => e = .returned (.tuple #[.bool r1, .int .i64 r2]) ∧ Below w.heap.size w w' := by
  unfold reqs_Can.f at h
  by_cases hs0 : smallRB l0 = true
  · have hs := (smallRB_iff _).1 hs0
    rw [if_pos hs0] at h
    have h3 := can_walk A0 c0 l0 w hr0 hc0 hG hs
    rw [Option.some.inj h] at h3
    exact h3
  · rw [if_neg hs0] at h; cases h
end Go.Proofs.YtblfbdlhphhfnaaGreatDoor.PA
