import Derived.Test.YtblfbdlhphhfnaaGreatDoorN28
import Derived.Test.YtblfbdlhphhfnaaGreatDoorN32
namespace Go.Proofs.YtblfbdlhphhfnaaGreatDoor.PA
open Go.RowKit Go.Maps Go.Sort Go.Shelf Go.Proofs.YtblfbdlhphhfnaaGreatDoorW.PrintWords Go.Proofs.YtblfbdlhphhfnaaGreatDoorW.PrintLast
set_option linter.unusedVariables false
set_option linter.unusedSimpArgs false
theorem valOf_small {ls : List S34} (h : SmallLab ls) {k u : ByteArray} (hu : valOf ls k = some u) : u.size ≤ 140737488351232 := by
  induction ls with
  | nil => cases hu
  | cons y r ih =>
    rw [valOf] at hu
    by_cases e : y.f0 = k
    · rw [if_pos e] at hu; rw [← Option.some.inj hu]; exact (h y List.mem_cons_self).2
    · rw [if_neg e] at hu; exact ih (fun x hx => h x (List.mem_cons_of_mem _ hx)) hu
theorem adm_err {l : List S25} {labels : List S34} {all : List S42} {e : Int} (hP : admitsP l labels = if labE labels [] = 0 then (admL labels l all, 0) else (false, labE labels [])) (h : labE labels [] = e) (h0 : e ≠ 0) : admitsP l labels = (false, e) := by
  rw [hP, h, if_neg h0]
theorem run_lab {w : World} {b n : Nat} {ls : List S34} (h : VAt anyElem w b n (labA ls)) (key : ByteArray) (hk : key.size ≤ 140737488351232) : (Instr.lookup 63 (.map (some b)) (.string key) true).run Tryz.prog w = .ok (.tuple #[.string ((valOf ls key).getD ⟨#[]⟩), .bool (valOf ls key).isSome]) w := by
  have := run_v_look anyElem_exact h 63 9 Tryz.underlying63 (.string ⟨#[]⟩) (zeroStr w) rfl key (by unfold maxLen; omega)
  rw [this]
  unfold labA
  cases valOf ls key <;> rfl
set_option maxHeartbeats 4000000 in
set_option maxRecDepth 100000 in
theorem admits_ok (A : Option Addr) (c : Nat) (l : List S25) (A2 : Option Addr) (c2 : Nat) (labels : List S34) (w : World) (hr : Kd.C k25 w A l.length l) (hc : l.length ≤ c) (hr2 : Kd.C k34 w A2 labels.length labels) (hc2 : labels.length ≤ c2) (hG : GL w) (hs : SmallR l) (hs2 : SmallLab labels) (hl2 : labels.length ≤ 1000000000000) (h0 : (setsP l 16).2 = 0) :
    Calls Tryz.prog 9 #[.slice A l.length c, .slice A2 labels.length c2] w fun e w' => e = .returned (.tuple #[.bool (admitsP l labels).1, .int .i64 (admitsP l labels).2]) ∧ Below w.heap.size w w' := by
  obtain ⟨hl16, hall⟩ := setsP_ok h0
  have hcall := reqs_sets.calls (l.length + 1) A c l 16 (setsP l 16).1 0 w hr hc hG (by rw [sets_f l hs 16 (by omega), ← h0])
  have hP : Hid (admitsP l labels = if labE labels [] = 0 then (admL labels l (setsP l 16).1, 0) else (false, labE labels [])) := Lib.hid (by unfold admitsP; rw [if_pos h0])
  obtain ⟨all, eall⟩ : ∃ all, all = (setsP l 16).1 := ⟨_, rfl⟩
  have hln : all.length = l.length := by rw [eall, hall]; simp
  have hsv : ∀ x ∈ all, SmallV x.f3 := fun x hx => small_set hs (by rw [← hall, ← eall]; exact hx)
  rw [← eall] at hcall hP
  clear eall hall h0
  have HS := Lib.hid hs; clear hs
  have HS2 := Lib.hid hs2; clear hs2
  have HR := Lib.hid hr; clear hr
  have hn2 : labels.length ≤ 9223372036854775807 := hr2.2.1
  have HR2 := Lib.hid hr2; clear hr2
  have HSV := Lib.hid hsv; clear hsv
  have HLN := Lib.hid hln; clear hln
  have h16 : l.length ≤ 16 := by omega
  clear hl16
  have hmm := @run_makeMap Tryz.prog
  go_enter Tryz.func9, Tryz.ntmps9
  go_wp2_with (first
    | (go_at_call 21; refine hcall.mono ?_; rintro e w1 ⟨v, rfl, hS, hb1⟩; obtain ⟨f, hR⟩ := hS; obtain ⟨Av, cv, hv⟩ := Kd.R_slice hR; rw [List.length_zipIdx, HLN.out] at hv; subst hv; have HRW := Lib.hid hR; clear hR))
  have hbm : w.heap.size ≤ w1.heap.size := hb1.size
  go_loopw [28] (fun i wr => ∃ k : Nat, k ≤ labels.length ∧ i = .int .i64 k ∧ VAt anyElem wr w1.heap.size k (labA (labels.take k)) ∧ Hid (labE labels [] = labE (labels.drop k) ((labels.take k).map (·.f0))) ∧ Below w1.heap.size w1 wr) (fun i _ => labels.length - (intOf i).toNat)
  case atStart => exact ⟨0, Nat.zero_le _, rfl, VAt.made w1, Lib.hid rfl, (Below.refl _ _).alloc (Nat.le_refl _) _⟩
  case round =>
    obtain ⟨k, hk, rfl, hV, HE, hbw⟩ := hrel
    by_cases hlt : k < labels.length
    · obtain ⟨ad, hA, t0, t1⟩ := at_T34 HR2.out (k : Int) (by omega) (by omega)
      subst hA
      obtain ⟨x, ex⟩ : ∃ x, x = rd_T34 labels k := ⟨_, rfl⟩
      rw [← ex, Int.toNat_natCast] at t0 t1
      replace t0 := pw_cell_below hbw (pw_cell_below hb1 t0)
      replace t1 := pw_cell_below hbw (pw_cell_below hb1 t1)
      have hsm := HS2.out x (mem_rdL hlt ex)
      have HAT := Lib.hid (labE_at hlt ex ((labels.take k).map (·.f0)))
      have HTK := Lib.hid (take_rd hlt ex)
      clear ex
      obtain ⟨key, val⟩ := x
      have hs1 : key.size ≤ 140737488351232 := hsm.1
      have hs2 : val.size ≤ 140737488351232 := hsm.2
      clear hsm
      have hGr : GL wr := GL.of_below hG (below_then hb1 hb1.size hbw)
      have hname := fun W => valset_Name.calls key (isName key.data.toList) W (by unfold valset_Name.f; rw [if_pos hs1])
      have hval := fun W hb => Value_calls val hs2 W (GL.of_below hGr hb)
      have hb2 : Below wr.heap.size wr (wr.alloc (.cells #[.string key, .string val] 34)) := (Below.refl _ _).alloc (Nat.le_refl _) _
      have hbx : (wr.alloc (.cells #[.string key, .string val] 34)).heap[wr.heap.size]? = some (.cells #[.string key, .string val] 34 (0, 0)) := blk_new _ _
      cases hN : isName key.data.toList with
      | false =>
        rw [hN] at hname
        have HN := Lib.hid hN; clear hN
        go_wp2_with (first
          | (go_at_call 26; refine (hname _).mono ?_; rintro e w3 ⟨rfl, hb3⟩))
        go_ret2
        rw [adm_err hP.out (show labE labels [] = 20 by rw [HE.out, HAT.out, HN.out]; rfl) (by decide)]
        exact ⟨rfl, below_then (below_then hb1 hb1.size hbw) (Nat.le_trans hbm hbw.size) (below_then hb2 hb2.size hb3)⟩
      | true =>
        rw [hN] at hname
        have HN := Lib.hid hN; clear hN
        cases hVl : isValue val with
        | false =>
          rw [hVl] at hval
          have HVL := Lib.hid hVl; clear hVl
          go_wp2_with (first
            | (go_at_call 26; refine (hname _).mono ?_; rintro e w3 ⟨rfl, hb3⟩; have hbx3 := blk_below hbx hb3; have k0 : w3.cell? ⟨wr.heap.size, 0, none⟩ = some (.string key) := (blk_cell hbx3 0).trans rfl; have k1 : w3.cell? ⟨wr.heap.size, 1, none⟩ = some (.string val) := (blk_cell hbx3 1).trans rfl; have hb3' := below_then hb2 hb2.size hb3)
            | (go_at_call 27; refine (hval _ hb3').mono ?_; rintro e w4 ⟨rfl, hb4⟩))
          go_ret2
          rw [adm_err hP.out (show labE labels [] = 20 by rw [HE.out, HAT.out, HN.out, HVL.out]; rfl) (by decide)]
          exact ⟨rfl, below_then (below_then hb1 hb1.size hbw) (Nat.le_trans hbm hbw.size) (below_then hb3' hb3'.size hb4)⟩
        | true =>
          rw [hVl] at hval
          have HVL := Lib.hid hVl; clear hVl
          cases hF : valOf (labels.take k) key with
          | some u =>
            have HF := Lib.hid hF
            have hlk : ∀ W, Below wr.heap.size wr W → (Instr.lookup 63 (.map (some w1.heap.size)) (.string key) true).run Tryz.prog W = .ok (.tuple #[.string u, .bool true]) W := fun W hW => by
              rw [run_lab (hV.below hW) key hs1, hF]; rfl
            clear hF
            have HLK := Lib.hid hlk; clear hlk
            go_wp2_with (first
              | (go_at_call 26; refine (hname _).mono ?_; rintro e w3 ⟨rfl, hb3⟩; have hbx3 := blk_below hbx hb3; have k0 : w3.cell? ⟨wr.heap.size, 0, none⟩ = some (.string key) := (blk_cell hbx3 0).trans rfl; have k1 : w3.cell? ⟨wr.heap.size, 1, none⟩ = some (.string val) := (blk_cell hbx3 1).trans rfl; have hb3' := below_then hb2 hb2.size hb3)
              | (go_at_call 27; refine (hval _ hb3').mono ?_; rintro e w4 ⟨rfl, hb4⟩; have hbx4 := blk_below hbx3 hb4; have j0 : w4.cell? ⟨wr.heap.size, 0, none⟩ = some (.string key) := (blk_cell hbx4 0).trans rfl; have hb4' := below_then hb3' hb3'.size hb4; have hl4 := HLK.out _ hb4'))
            go_ret2
            have hm : memS ((labels.take k).map (·.f0)) key = true := by
              cases h : memS ((labels.take k).map (·.f0)) key with
              | true => rfl
              | false => rw [valOf_none.2 h] at HF; cases HF.out
            rw [adm_err hP.out (show labE labels [] = 6 by rw [HE.out, HAT.out, HN.out, HVL.out, hm]; rfl) (by decide)]
            exact ⟨rfl, below_then (below_then hb1 hb1.size hbw) (Nat.le_trans hbm hbw.size) hb4'⟩
          | none =>
            have hm := Lib.hid (valOf_none.1 hF)
            have hlk : ∀ W, Below wr.heap.size wr W → (Instr.lookup 63 (.map (some w1.heap.size)) (.string key) true).run Tryz.prog W = .ok (.tuple #[.string ⟨#[]⟩, .bool false]) W := fun W hW => by
              rw [run_lab (hV.below hW) key hs1, hF]; rfl
            clear hF
            have HLK := Lib.hid hlk; clear hlk
            go_wp2_with (first
              | (go_at_call 26; refine (hname _).mono ?_; rintro e w3 ⟨rfl, hb3⟩; have hbx3 := blk_below hbx hb3; have k0 : w3.cell? ⟨wr.heap.size, 0, none⟩ = some (.string key) := (blk_cell hbx3 0).trans rfl; have k1 : w3.cell? ⟨wr.heap.size, 1, none⟩ = some (.string val) := (blk_cell hbx3 1).trans rfl; have hb3' := below_then hb2 hb2.size hb3)
              | (go_at_call 27; refine (hval _ hb3').mono ?_; rintro e w4 ⟨rfl, hb4⟩; have hbx4 := blk_below hbx3 hb4; have j0 : w4.cell? ⟨wr.heap.size, 0, none⟩ = some (.string key) := (blk_cell hbx4 0).trans rfl; have j1 : w4.cell? ⟨wr.heap.size, 1, none⟩ = some (.string val) := (blk_cell hbx4 1).trans rfl; have hb4' := below_then hb3' hb3'.size hb4; have hl4 := HLK.out _ hb4'; have hV4 := hV.below hb4')
              | (at_mapUpdate; refine v_put hV4 rfl 63 9 Tryz.underlying63 _ _ _ rfl key (.string val) rfl rfl rfl rfl (by unfold maxLen; omega) (by unfold maxLen; omega) ?_; intro w5 hV5 hg5))
            go_roundw
            case rel => exact ⟨k + 1, by omega, by go_num, by rw [HTK.out, ← labA_put (x := ⟨key, val⟩) hm.out]; exact hV5, Lib.hid (by rw [HE.out, HAT.out, HN.out, HVL.out, hm.out, HTK.out, List.map_append]; rfl), (below_then hbw hbw.size hb4').grown hg5 (below_then hbw hbw.size hb4').size (fun j hj => by cases hj; exact Nat.le_refl _)⟩
            case measure => show labels.length - ((k : Int) + 1).toNat < labels.length - (k : Int).toNat; omega
    · have hke : k = labels.length := by omega
      subst hke
      rw [List.take_length] at hV
      have hE0 := Lib.hid (show labE labels [] = 0 by rw [HE.out, List.drop_length]; rfl)
      have hPR := Lib.hid (show admitsP l labels = (admL labels l all, 0) by rw [hP.out, hE0.out, if_pos rfl])
      have hVq := hV
      have hbq := hbw
      clear hV hbw HE
      go_wp2_with fail
      go_loopw [58] (fun i wq => ∃ k : Nat, k ≤ l.length ∧ i = .int .i64 k ∧ VAt anyElem wq w1.heap.size labels.length (labA labels) ∧ Hid (admL labels l all = admL labels (l.drop k) (all.drop k)) ∧ Below w1.heap.size w1 wq) (fun i _ => l.length - (intOf i).toNat)
      case atStart => exact ⟨0, Nat.zero_le _, rfl, hVq, Lib.hid rfl, hbq⟩
      case round =>
        clear hVq hbq
        obtain ⟨k, hk, rfl, hV, HE, hbw⟩ := hrel
        by_cases hlt : k < l.length
        · obtain ⟨ad, A3, c3, rfl, hMx, l3, g3, s0, s1, s2, s3, s4, s5⟩ := all_get HRW.out HLN.out k hlt
          obtain ⟨s, es⟩ : ∃ s, s = rd_T42 all k := ⟨_, rfl⟩
          rw [← es] at hMx l3 g3 s0 s1 s2 s3 s4 s5
          replace s0 := pw_cell_below hbw s0
          replace s1 := pw_cell_below hbw s1
          replace s2 := pw_cell_below hbw s2
          replace s3 := pw_cell_below hbw s3
          replace s4 := pw_cell_below hbw s4
          replace s5 := pw_cell_below hbw s5
          obtain ⟨ad2, A2, c2, hA, t0, t1, t2, t3, _, _⟩ := at_T25 HR.out (k : Int) (by omega) (by omega)
          subst hA
          obtain ⟨key, ek⟩ : ∃ key, key = (rd_T25 l k).f0 := ⟨_, rfl⟩
          rw [← ek, Int.toNat_natCast] at t0
          replace t0 := pw_cell_below hbw (pw_cell_below hb1 t0)
          clear t1 t2 t3
          have t0A : ∀ o, (wr.alloc o).cell? (ad2.add (k * 4)) = some (.string key) := fun o => pw_cell_below ((Below.refl _ _).alloc (Nat.le_refl _) _) t0
          have hky : key.size ≤ 140737488351232 := by rw [ek]; exact (HS.out _ (by simp [rd_T25, List.getD_eq_getElem?_getD, List.getElem?_eq_getElem hlt])).1
          have hsv := HSV.out s (mem_rd (by have := HLN.out; omega) es)
          have hl63 : s.f3.length ≤ 9223372036854775807 := g3.2.1
          have HAT := Lib.hid (admL_at (labels := labels) hlt HLN.out es ek)
          clear hMx es ek
          have hGr : GL wr := GL.of_below hG (below_then hb1 hb1.size hbw)
          have hlk0 := fun o => run_lab (hV.kept (World.grownBy_alloc wr o none) (by simp)) key hky
          have hbx : ∀ W, Below wr.heap.size wr W → Kd.C Kd.string W A3 s.f3.length s.f3 := fun W hW => Kd.C_below (Kd.C_below g3 hbw) hW
          have HBX := Lib.hid hbx; clear hbx g3
          have hb2 : Below wr.heap.size wr (wr.alloc (.cells #[.bool s.f0, .bool s.f1, .bool s.f2, .slice A3 s.f3.length c3, .int .i64 s.f4, .int .i64 s.f5] 42)) := (Below.refl _ _).alloc (Nat.le_refl _) _
          cases hF : valOf labels key with
          | some u =>
            rw [hF] at hlk0
            have hus : u.size ≤ 140737488351232 := valOf_small HS2.out hF
            have hhas := fun W hb => valset_Has.calls (s.f3.length + 1) s.f0 s.f1 s.f2 A3 c3 s.f3 s.f4 s.f5 u (setHas (sP s) u) W (HBX.out W hb) l3 (GL.of_below hGr hb) (has_f s u hsv hl63 hus)
            have hA1 := Lib.hid (show adm1 labels key (sP s) = setHas (sP s) u by unfold adm1; rw [hF])
            clear hF
            cases hh : setHas (sP s) u with
            | true =>
              rw [hh] at hhas
              have HH := Lib.hid hh; clear hh
              go_wp2_with (first
                | (go_at_call 28; refine (hhas _ hb2).mono ?_; rintro e w3 ⟨rfl, hb3⟩))
              go_roundw
              case rel => exact ⟨k + 1, by omega, by go_num, (hV.below (below_then hb2 hb2.size hb3)), Lib.hid (by rw [HE.out, HAT.out, hA1.out, HH.out]; rfl), below_then hbw hbw.size (below_then hb2 hb2.size hb3)⟩
              case measure => show l.length - ((k : Int) + 1).toNat < l.length - (k : Int).toNat; omega
            | false =>
              rw [hh] at hhas
              have HH := Lib.hid hh; clear hh
              go_wp2_with (first
                | (go_at_call 28; refine (hhas _ hb2).mono ?_; rintro e w3 ⟨rfl, hb3⟩))
              go_ret2
              rw [hPR.out, HE.out, HAT.out, hA1.out, HH.out]
              exact ⟨rfl, below_then (below_then hb1 hb1.size hbw) (Nat.le_trans hbm hbw.size) (below_then hb2 hb2.size hb3)⟩
          | none =>
            rw [hF] at hlk0
            have hA1 := Lib.hid (show adm1 labels key (sP s) = s.f0 by unfold adm1; rw [hF]; rfl)
            clear hF
            cases hm : s.f0 with
            | true =>
              have HH := Lib.hid hm
              rw [hm] at s0 hb2
              clear hm
              go_wp2_with fail
              go_roundw
              case rel => exact ⟨k + 1, by omega, by go_num, (hV.below hb2), Lib.hid (by rw [HE.out, HAT.out, hA1.out, HH.out]; rfl), below_then hbw hbw.size hb2⟩
              case measure => show l.length - ((k : Int) + 1).toNat < l.length - (k : Int).toNat; omega
            | false =>
              have HH := Lib.hid hm
              rw [hm] at s0 hb2
              clear hm
              go_wp2_with fail
              go_ret2
              rw [hPR.out, HE.out, HAT.out, hA1.out, HH.out]
              exact ⟨rfl, below_then (below_then hb1 hb1.size hbw) (Nat.le_trans hbm hbw.size) hb2⟩
        · have hke : k = l.length := by omega
          subst hke
          go_wp2_with fail
          go_ret2
          rw [hPR.out, HE.out, List.drop_length]
          exact ⟨rfl, below_then hb1 hb1.size hbw⟩
set_option maxHeartbeats 1000000 in
set_option maxRecDepth 100000 in
theorem admits_err (A : Option Addr) (c : Nat) (l : List S25) (A2 : Option Addr) (c2 : Nat) (labels : List S34) (w : World) (hr : Kd.C k25 w A l.length l) (hc : l.length ≤ c) (hG : GL w) (hs : SmallR l) (h0 : (setsP l 16).2 ≠ 0) :
    Calls Tryz.prog 9 #[.slice A l.length c, .slice A2 labels.length c2] w fun e w' => e = .returned (.tuple #[.bool (admitsP l labels).1, .int .i64 (admitsP l labels).2]) ∧ Below w.heap.size w w' := by
  have hcall := reqs_sets.calls (l.length + 1) A c l 16 (setsP l 16).1 (setsP l 16).2 w hr hc hG (sets_f l hs 16 (by omega))
  have hP : admitsP l labels = (false, (setsP l 16).2) := by unfold admitsP; rw [if_neg h0]
  obtain ⟨all, eall⟩ : ∃ all, all = (setsP l 16).1 := ⟨_, rfl⟩
  obtain ⟨E, hE⟩ : ∃ E, (setsP l 16).2 = E := ⟨_, rfl⟩
  rw [hP]
  clear hP
  rw [← eall] at hcall
  rw [hE] at h0 hcall ⊢
  clear eall hE
  have hq : (E != 0) = true := by simpa using h0
  clear h0 hr hs
  go_enter Tryz.func9, Tryz.ntmps9
  go_wp2_with (first
    | (go_at_call 21; refine hcall.mono ?_; rintro e w1 ⟨v, rfl, hS, hb1⟩))
  go_ret2
  exact ⟨rfl, hb1⟩
theorem admits_walk (A : Option Addr) (c : Nat) (l : List S25) (A2 : Option Addr) (c2 : Nat) (labels : List S34) (w : World) (hr : Kd.C k25 w A l.length l) (hc : l.length ≤ c) (hr2 : Kd.C k34 w A2 labels.length labels) (hc2 : labels.length ≤ c2) (hG : GL w) (hs : SmallR l) (hs2 : SmallLab labels) (hl2 : labels.length ≤ 1000000000000) :
    Calls Tryz.prog 9 #[.slice A l.length c, .slice A2 labels.length c2] w fun e w' => e = .returned (.tuple #[.bool (admitsP l labels).1, .int .i64 (admitsP l labels).2]) ∧ Below w.heap.size w w' := by
  by_cases h0 : (setsP l 16).2 = 0
  · exact admits_ok A c l A2 c2 labels w hr hc hr2 hc2 hG hs hs2 hl2 h0
  · exact admits_err A c l A2 c2 labels w hr hc hG hs h0
def reqs_Admits.f (l : List S25) (labels : List S34) : Option (Bool × Int) := if smallRB l = true ∧ smallLabB labels = true ∧ labels.length ≤ 1000000000000 then some (admitsP l labels) else none
theorem reqs_Admits.calls (A0 : Option Addr) (c0 : Nat) (l0 : List S25) (A1 : Option Addr) (c1 : Nat) (l1 : List S34) (r1 : Bool) (r2 : Int) (w : World) (hr0 : Kd.C k25 w A0 l0.length l0) (hc0 : l0.length ≤ c0) (hr1 : Kd.C k34 w A1 l1.length l1) (hc1 : l1.length ≤ c1) (hG : GL w) (h : reqs_Admits.f l0 l1 = some (r1, r2)) :
    Calls Tryz.prog 9 #[.slice A0 l0.length c0, .slice A1 l1.length c1] w fun e w' => e = .returned (.tuple #[.bool r1, .int .i64 r2]) ∧ Below w.heap.size w w' := by
  unfold reqs_Admits.f at h
  by_cases hs : smallRB l0 = true ∧ smallLabB l1 = true ∧ l1.length ≤ 1000000000000
  · rw [if_pos hs] at h
    have h2 := Option.some.inj h
    have h3 := admits_walk A0 c0 l0 A1 c1 l1 w hr0 hc0 hr1 hc1 hG ((smallRB_iff _).1 hs.1) ((smallLabB_iff _).1 hs.2.1) hs.2.2
    rw [h2] at h3
    exact h3
  · rw [if_neg hs] at h; cases h
end Go.Proofs.YtblfbdlhphhfnaaGreatDoor.PA
namespace Go.Proofs.YtblfbdlhphhfnaaGreatDoor.PA
open Go.RowKit Go.Maps Go.Sort Go.Shelf Go.Proofs.YtblfbdlhphhfnaaGreatDoorW.PrintWords Go.Proofs.YtblfbdlhphhfnaaGreatDoorW.PrintLast
set_option linter.unusedVariables false
set_option linter.unusedSimpArgs false
/-- An element whose blocks are its key's. -/
def tagK (g : Nat → ByteArray) : Kd S44 where
  sz := k44.sz
  E := k44.E
  K := k44.K
  M := fun w base ok x cs => k44.M w base (fun k => ok k ∧ g k = x.f0) x cs
  K_len := fun h => k44.K_len h
  K_one := fun h => k44.K_one h
  K_below := fun hb h => k44.K_below hb h
  K_of_M := fun h => k44.K_of_M h
  M_mono := fun hok h => k44.M_mono (fun k hk => ⟨hok k hk.1, hk.2⟩) h
  M_bound := fun h => k44.M_mono (fun _ hk => ⟨⟨hk.1.1, hk.2⟩, hk.1.2⟩) (k44.M_bound h)
  M_move := fun hm h => k44.M_move (fun k hk => hm k hk.1) h
  M_lower := fun hb h => k44.M_lower hb h
theorem kkey_row {w : World} {base : Nat} {ok : Nat → Prop} {x : S44} {cs : List Value} (h : k44.M w base ok x cs) : ∃ r : Row6, cs = encE (x, r) := by
  obtain ⟨A4, c4, rfl, _, _⟩ := k44_open (k44.K_of_M h)
  exact ⟨⟨x.f1.f0, x.f1.f1, x.f1.f2, A4, x.f1.f3.length, c4, x.f1.f4, x.f1.f5⟩, rfl⟩
theorem reps_split {R : S44 → List Value → Prop} (hR : ∀ x cs, R x cs → ∃ r : Row6, cs = encE (x, r)) : ∀ (L : List S44) (inner : List Value), Reps R 7 L inner → ∃ E : List EK, E.map (·.1) = L ∧ E.flatMap encE = inner ∧ ∀ p ∈ E, R p.1 (encE p)
  | [], inner, h => ⟨[], rfl, (List.length_eq_zero_iff.1 (by simpa using h.1)).symm, fun p hp => by cases hp⟩
  | x :: L, inner, h => by
    have hlen : inner.length = L.length * 7 + 7 := by have := h.1; simp at this; omega
    have h0 := h.2 0 x rfl
    simp only [Nat.zero_mul, List.drop_zero] at h0
    obtain ⟨r, hr⟩ := hR x _ h0
    have h1 : Reps R 7 L (inner.drop 7) := ⟨by rw [List.length_drop, hlen]; omega, fun j p hj => by
      have := h.2 (j + 1) p (by simpa using hj)
      rw [List.drop_drop]
      rwa [show 7 + j * 7 = (j + 1) * 7 by omega]⟩
    obtain ⟨E, e1, e2, e3⟩ := reps_split hR L _ h1
    refine ⟨(x, r) :: E, by simp [e1], by rw [List.flatMap_cons, e2, ← hr, List.take_append_drop], fun p hp => ?_⟩
    rcases List.mem_cons.1 hp with rfl | hp
    · rw [← hr]; exact h0
    · exact e3 p hp
theorem reps_join {α : Type} {R : α → List Value → Prop} : ∀ (E : List EK) (xs : List α), xs.length = E.length → (∀ (j : Nat) (p : EK) (q : α), E[j]? = some p → xs[j]? = some q → R q (encE p)) → Reps R 7 xs (E.flatMap encE)
  | [], xs, hl, h => by
    have : xs = [] := List.length_eq_zero_iff.1 (by simpa using hl)
    subst this
    exact Reps.none _ _
  | p :: E, [], hl, h => by simp at hl
  | p :: E, x :: xs, hl, h => by
    have ih := reps_join (R := R) E xs (by simpa using hl) (fun j p q hp hq => h (j + 1) p q (by simpa using hp) (by simpa using hq))
    have h0 := h 0 p x rfl rfl
    refine ⟨by rw [flat_len]; simp at hl; simp [hl], fun j q hq => ?_⟩
    rw [List.flatMap_cons]
    cases j with
    | zero =>
      have : x = q := by simpa using hq
      subst this
      rw [Nat.zero_mul, List.drop_zero, ← encE_len p, List.take_left]
      exact h0
    | succ j =>
      have := ih.2 j q (by simpa using hq)
      rw [show (j + 1) * 7 = (encE p).length + j * 7 by rw [encE_len]; omega, ← List.drop_drop, List.drop_left]
      exact this
theorem R_split {g : Nat → ByteArray} {w : World} {base : Nat} {ok : Nat → Prop} {v : Value} {L : List S44} (h : (tagK g).R 44 w base ok v L) :
    ∃ E : List EK, E.map (·.1) = L ∧ w.ownsRow base 44 7 v E.length (E.flatMap encE) ∧ ∀ p ∈ E, k44.M w base (fun k => some k ≠ v.ownBlock ∧ g k = p.1.f0) p.1 (encE p) := by
  obtain ⟨_, inner, ho, hr⟩ := h
  obtain ⟨E, e1, e2, e3⟩ := reps_split (R := (tagK g).M w base fun k => ok k ∧ some k ≠ v.ownBlock) (fun x cs hx => kkey_row hx) L inner hr
  refine ⟨E, e1, ?_, fun p hp => k44.M_mono (fun k hk => ⟨hk.1.2, hk.2⟩) (e3 p hp)⟩
  rw [e2, show E.length = L.length by rw [← e1, List.length_map]]
  exact ho
/-- Where a key stands among keys. -/
def posK (E : List EK) (k : ByteArray) : Nat := E.findIdx fun p => decide (p.1.f0 = k)
theorem posK_at {E : List EK} (hn : (E.map fun p => p.1.f0).Nodup) {j : Nat} {p : EK} (hj : E[j]? = some p) : posK E p.1.f0 = j := by
  obtain ⟨hlt, he⟩ := List.getElem?_eq_some_iff.1 hj
  unfold posK
  rw [List.findIdx_eq hlt]
  refine ⟨by rw [he]; simp, fun i hi => ?_⟩
  simp only [decide_eq_false_iff_not]
  intro e
  have h1 : (E.map fun p => p.1.f0)[i]'(by simp; omega) = (E.map fun p => p.1.f0)[j]'(by simp; omega) := by simp [e, he]
  exact absurd h1 (List.pairwise_iff_getElem.1 hn i j _ _ hi)
theorem S_join {g : Nat → ByteArray} {w : World} {base : Nat} {v : Value} {E : List EK} (ho : w.ownsRow base 44 7 v E.length (E.flatMap encE)) (hM : ∀ p ∈ E, k44.M w base (fun k => some k ≠ v.ownBlock ∧ g k = p.1.f0) p.1 (encE p)) (hn : (E.map fun p => p.1.f0).Nodup) :
    Kd.S k44 44 w base (fun _ => True) v (E.map (·.1)) := by
  refine ⟨fun k => posK E (g k), fun _ _ => trivial, E.flatMap encE, ?_, ?_⟩
  · rw [List.length_zipIdx, List.length_map]; exact ho
  · refine reps_join E _ (by simp) fun j p q hp hq => ?_
    have hj : j < E.length := (List.getElem?_eq_some_iff.1 hp).1
    rw [List.getElem?_zipIdx, List.getElem?_map, hp] at hq
    have hq2 : q = (p.1, j) := by simpa using hq.symm
    subst hq2
    refine k44.M_mono (fun k hk => ⟨⟨trivial, hk.1⟩, ?_⟩) (hM p (List.mem_of_getElem? hp))
    show posK E (g k) = j
    rw [hk.2]
    exact posK_at hn hp
theorem nodup_sorted_eq {L KS : List S44} (hL : (L.map (·.f0)).Nodup) (hm : ∀ x, x ∈ L ↔ x ∈ KS) (hs : SortedK KS) {L' : List S44} (hp : L'.Perm L) (hso : L'.Pairwise fun x y => ltS y.f0 x.f0 = false) : L' = KS := by
  have hL' : (L'.map (·.f0)).Nodup := (hp.map _).nodup_iff.2 hL
  have hs2 : SortedK L' := by
    have h1 : L'.Pairwise fun x y => x.f0 ≠ y.f0 := List.pairwise_map.1 hL'
    exact (List.pairwise_and_iff.2 ⟨hso, h1⟩).imp fun {a b} h => ltS_total h.1 (fun e => h.2 e.symm)
  refine List.Perm.eq_of_pairwise (le := fun x y : S44 => ltS x.f0 y.f0 = true) (fun a b _ _ h1 h2 => ?_) hs2 hs ?_
  · have := ltS_trans h1 h2; rw [ltS_irrefl] at this; cases this
  · have nd : ∀ {T : List S44}, SortedK T → T.Nodup := fun {T} h => h.imp fun {a b} hab e => by subst e; rw [ltS_irrefl] at hab; cases hab
    refine (List.perm_ext_iff_of_nodup (nd hs2) (nd hs)).2 fun x => ?_
    rw [hp.mem_iff, hm]
/-- slices.SortFunc over what was collected. -/
theorem sort_walk {g : Nat → ByteArray} {base : Nat} {v : Value} {L KS : List S44} {w : World} (h : (tagK g).R 44 w base (fun _ => True) v L) (hL : (L.map (·.f0)).Nodup) (hm : ∀ x, x ∈ L ↔ x ∈ KS) (hs : SortedK KS) (hn : L.length < 4611686018427387904) {w0 : World} (hb : Below base w0 w) (hbs : base ≤ w.heap.size) :
    Calls Tryz.prog 23 #[v, .func (.func 24) #[] #[]] w fun e w' => e = .returned (.tuple #[]) ∧ Kd.S k44 44 w' base (fun _ => True) v KS ∧ Below base w0 w' := by
  obtain ⟨E, e1, ho, hM⟩ := R_split h
  have hty := Kd.R_typed h
  have hba := Kd.R_base h
  have hle : E.length = L.length := by rw [← e1, List.length_map]
  refine (sortE base v E w ho (by omega)).mono ?_
  rintro e w' ⟨rfl, E', hP, hS, ho', hg⟩
  have hfin : E'.map (·.1) = KS := nodup_sorted_eq hL hm hs (by rw [← e1]; exact hP.map _) (List.pairwise_map.2 hS)
  refine ⟨rfl, ?_, hb.grown hg hbs hba⟩
  rw [← hfin]
  refine S_join (g := g) ho' (fun p hp => ?_) ?_
  · refine M_grown (hM p (hP.mem_iff.1 hp)) hg (fun k cells q hk hc hq => hk.1)
  · have h1 : E'.map (fun p => p.1.f0) = (E'.map (·.1)).map (·.f0) := by simp
    rw [h1]
    have h2 : ((E'.map (·.1)).map (·.f0)).Perm (L.map (·.f0)) := by rw [← e1]; exact (hP.map _).map _
    exact h2.nodup_iff.2 hL
end Go.Proofs.YtblfbdlhphhfnaaGreatDoor.PA
