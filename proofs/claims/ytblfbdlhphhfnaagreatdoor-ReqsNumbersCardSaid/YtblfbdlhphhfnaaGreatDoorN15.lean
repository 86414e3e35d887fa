import Derived.Test.YtblfbdlhphhfnaaGreatDoorN7
import Derived.Test.YtblfbdlhphhfnaaGreatDoorN14
import Derived.IntWalk
import Derived.Laws.Cover1
import Derived.Deep.DeepCutAuto
namespace Go.Proofs.YtblfbdlhphhfnaaGreatDoor.PA
open Go.RowKit Go.Maps Go.Sort Go.Shelf Go.Proofs.YtblfbdlhphhfnaaGreatDoorW.PrintWords Go.Proofs.YtblfbdlhphhfnaaGreatDoorW.PrintLast
set_option linter.unusedVariables false
set_option linter.unusedSimpArgs false
def chk1 (num : Bool) (lo hi : Int) (prev : Option ByteArray) (v : ByteArray) (b : Bool) : Bool :=
  if (num && !(b || !isValue v || (match prev with | none => false | some p => !ltS p v))) = true then (!(numR v.data.toList).2 || decide ((numR v.data.toList).1 ≤ lo) || decide (hi ≤ (numR v.data.toList).1))
  else (b || !isValue v || (match prev with | none => false | some p => !ltS p v))
def chkL (num : Bool) (lo hi : Int) : Option ByteArray → List ByteArray → Bool → Bool
  | _, [], b => b
  | prev, v :: r, b => chkL num lo hi (some v) r (chk1 num lo hi prev v b)
def chk0 (neg num : Bool) (vals : List ByteArray) (lo hi : Int) : Bool := decide ((64 : Int) < (vals.length : Int)) || (num && !neg) || (!num && (lo != 0 || hi != 0))
def checkB (neg num : Bool) (vals : List ByteArray) (lo hi : Int) : Bool :=
  if (num && !chkL num lo hi none vals (chk0 neg num vals lo hi)) = true then (decide (lo < -2147483648) || decide (2147483648 < hi) || decide (hi < lo) || decide (hi - lo + 1 - (vals.length : Int) ≤ 64))
  else chkL num lo hi none vals (chk0 neg num vals lo hi)
def checkP (neg num : Bool) (vals : List ByteArray) (lo hi : Int) : Int := if checkB neg num vals lo hi = true then 1 else 0
def prevAt (vals : List ByteArray) (k : Nat) : Option ByteArray := match k with | 0 => none | j + 1 => some (vals.getD j ByteArray.empty)
theorem chkL_step {num : Bool} {lo hi : Int} {vals : List ByteArray} {k : Nat} (h : k < vals.length) (b : Bool) :
    chkL num lo hi (prevAt vals k) (vals.drop k) b = chkL num lo hi (prevAt vals (k + 1)) (vals.drop (k + 1)) (chk1 num lo hi (prevAt vals k) (vals.getD k ByteArray.empty) b) := by
  rw [List.drop_eq_getElem_cons h, chkL]
  simp only [prevAt, List.getD_eq_getElem?_getD, List.getElem?_eq_getElem h, Option.getD_some]
theorem chkL_end {num : Bool} {lo hi : Int} {vals : List ByteArray} {p : Option ByteArray} (b : Bool) : chkL num lo hi p (vals.drop vals.length) b = b := by
  rw [List.drop_length]; cases p <;> rfl
set_option maxHeartbeats 4000000 in
set_option maxRecDepth 100000 in
theorem check_off (miss : Bool) (neg : Bool) (A : Option Addr) (c : Nat) (vals : List ByteArray) (lo hi : Int) (w : World) (hr : Kd.C Kd.string w A vals.length vals) (hc : vals.length ≤ c) (hs : ∀ s ∈ vals, s.size ≤ 140737488351232) (hG : GL w) :
    Calls Tryz.prog 41 #[.agg #[.bool miss, .bool neg, .bool false, .slice A vals.length c, .int .i64 lo, .int .i64 hi]] w fun e w' => e = .returned (.int .i64 (checkP neg false vals lo hi)) ∧ Below w.heap.size w w' := by
  have hnl : vals.length ≤ 9223372036854775807 := hr.2.1
  have HR := Lib.hid hr
  clear hr
  have hb0 : Below w.heap.size w (w.alloc (.cells #[.bool miss, .bool neg, .bool false, .slice A vals.length c, .int .i64 lo, .int .i64 hi] 42)) := (Below.refl w.heap.size w).alloc (Nat.le_refl _) _
  have hbox := blk_new w (.cells #[.bool miss, .bool neg, .bool false, .slice A vals.length c, .int .i64 lo, .int .i64 hi] 42)
  go_enter Tryz.func41, Tryz.ntmps41
  go_upto_region 1 with fail
  go_cut [3] (fun b wx => b = .bool (chk0 neg false vals lo hi) ∧ wx = w.alloc (.cells #[.bool miss, .bool neg, .bool false, .slice A vals.length c, .int .i64 lo, .int .i64 hi] 42))
  case first =>
    cases hql : (lo != 0)
    all_goals go_wp2_with fail
    all_goals go_meet
    all_goals refine ⟨congrArg Value.bool ?_, rfl⟩
    all_goals (first | (exfalso; omega) | (unfold chk0; simp [*]))
  case rest =>
  obtain ⟨rfl, rfl⟩ := hcut
  go_wp2_with fail
  go_loopw [3, 4, 5, 6, 7, 39] (fun b _ _ _ _ i wr => ∃ (k : Nat) (b' : Bool), k ≤ vals.length ∧ i = .int .i64 k ∧ b = .bool b' ∧ Hid (chkL false lo hi none vals (chk0 neg false vals lo hi) = chkL false lo hi (prevAt vals k) (vals.drop k) b') ∧ Below w.heap.size w wr ∧ wr.heap[w.heap.size]? = some (.cells #[.bool miss, .bool neg, .bool false, .slice A vals.length c, .int .i64 lo, .int .i64 hi] 42 (0, 0))) (fun _ _ _ _ _ i _ => vals.length - (intOf i).toNat)
  case atStart => exact ⟨0, _, Nat.zero_le _, rfl, rfl, Lib.hid rfl, hb0, hbox⟩
  case round =>
    obtain ⟨k, b, hk, rfl, rfl, HC, hb, hbx⟩ := hrel
    obtain ⟨fc, ff⟩ := six_facts hbx
    by_cases hlt : k < vals.length
    · have hst := chkL_step (num := false) (lo := lo) (hi := hi) hlt b
      obtain ⟨ad, cs, rfl, _, hK, hcell⟩ := Kd.C_get (Kd.C_below HR.out hb) ByteArray.empty k (by omega) (by omega)
      have hK' : cs = [.string (vals.getD k ByteArray.empty)] := by simpa [Kd.string, Kd.scalar] using hK
      subst hK'
      have hx : wr.cell? (ad.add k) = some (.string (vals.getD k ByteArray.empty)) := by simpa [Kd.string, Kd.scalar] using hcell 0 _ rfl
      clear hcell hK
      obtain ⟨v, ev⟩ : ∃ v, v = vals.getD k ByteArray.empty := ⟨_, rfl⟩
      have hvs : v.size ≤ 140737488351232 := hs v (by rw [ev, List.getD_eq_getElem?_getD, List.getElem?_eq_getElem hlt]; exact List.getElem_mem _)
      rw [← ev] at hx hst
      have HST := Lib.hid hst
      clear hst ev
      have hval := fun W h => Value_calls v hvs W h
      cases b with
      | true =>
        go_wp2_with fail
        have hch : chk1 false lo hi (prevAt vals k) v true = true := by (unfold chk1; simp [])
        go_roundw
        case rel => exact ⟨k + 1, true, by omega, by go_num, rfl, Lib.hid (by rw [HC.out, HST.out, hch]), hb, hbx⟩
        case measure => show vals.length - ((k : Int) + 1).toNat < vals.length - (k : Int).toNat; omega
      | false =>
        cases hv : isValue v with
        | false =>
          rw [hv] at hval
          go_wp2_with (first | (go_at_call 27; refine (hval _ (GL.of_below hG hb)).mono ?_; rintro e w2 ⟨rfl, hb2⟩; have hbx2 := blk_below hbx hb2; obtain ⟨fc2, ff2⟩ := six_facts hbx2; have hb3 := below_then hb hb.size hb2))
          have hch : chk1 false lo hi (prevAt vals k) v false = true := by (unfold chk1; simp [hv])
          go_roundw
          case rel => exact ⟨k + 1, true, by omega, by go_num, rfl, Lib.hid (by rw [HC.out, HST.out, hch]), hb3, hbx2⟩
          case measure => show vals.length - ((k : Int) + 1).toNat < vals.length - (k : Int).toNat; omega
        | true =>
          rw [hv] at hval
          by_cases hk0 : 0 < k
          · obtain ⟨ad3, cs2, had, _, hK2, hcell2⟩ := Kd.C_get (Kd.C_below HR.out hb) ByteArray.empty (((k - 1 : Nat) : Int)) (by omega) (by omega)
            obtain rfl := Option.some.inj had
            have hK3 : cs2 = [.string (vals.getD (k - 1) ByteArray.empty)] := by simpa [Kd.string, Kd.scalar] using hK2
            subst hK3
            have hxp : wr.cell? (ad.add (k - 1)) = some (.string (vals.getD (k - 1) ByteArray.empty)) := by simpa [Kd.string, Kd.scalar] using hcell2 0 _ rfl
            have hpv : prevAt vals k = some (vals.getD (k - 1) ByteArray.empty) := by cases k with | zero => omega | succ j => rfl
            clear hcell2 hK2
            obtain ⟨p, ep⟩ : ∃ p, p = vals.getD (k - 1) ByteArray.empty := ⟨_, rfl⟩
            rw [← ep] at hxp hpv
            have HPV := Lib.hid hpv
            clear hpv ep
            have hw1 : IntKind.i64.wrap ((k : Int) - 1) = (k : Int) - 1 := IntWalk.i64_in _ (by omega)
            have hw2 : 0 ≤ (k : Int) - 1 := by omega
            have hw3 : ((k : Int) - 1).toNat = k - 1 := by omega
            have hw4 : (k : Int) - 1 < vals.length := by omega
            have hk1 : (0 < k) = True := eq_true hk0
            cases hps : Op.bytesLess p.toList v.toList with
            | false =>
              have hps2 : ltS p v = false := by unfold ltS; rw [← ByteArray.toList_eq, ← ByteArray.toList_eq]; exact hps
              go_wp2_with (first | (go_at_call 27; refine (hval _ (GL.of_below hG hb)).mono ?_; rintro e w2 ⟨rfl, hb2⟩; have hbx2 := blk_below hbx hb2; obtain ⟨fc2, ff2⟩ := six_facts hbx2; have hb3 := below_then hb hb.size hb2; have hxp2 : w2.cell? (ad.add (k - 1)) = _ := pw_cell_below hb2 hxp))
              have hch : chk1 false lo hi (prevAt vals k) v false = true := by (unfold chk1; simp [hv, HPV.out, hps2])
              go_roundw
              case rel => exact ⟨k + 1, true, by omega, by go_num, rfl, Lib.hid (by rw [HC.out, HST.out, hch]), hb3, hbx2⟩
              case measure => show vals.length - ((k : Int) + 1).toNat < vals.length - (k : Int).toNat; omega
            | true =>
              have HPS : Hid (ltS p v = true) := Lib.hid (by unfold ltS; rw [← ByteArray.toList_eq, ← ByteArray.toList_eq]; exact hps)
              go_wp2_with (first | (go_at_call 27; refine (hval _ (GL.of_below hG hb)).mono ?_; rintro e w2 ⟨rfl, hb2⟩; have hbx2 := blk_below hbx hb2; obtain ⟨fc2, ff2⟩ := six_facts hbx2; have hb3 := below_then hb hb.size hb2; have hxp2 : w2.cell? (ad.add (k - 1)) = _ := pw_cell_below hb2 hxp))
              have hch : chk1 false lo hi (prevAt vals k) v false = false := by (unfold chk1; simp [hv, HPV.out, HPS.out])
              go_roundw
              case rel => exact ⟨k + 1, false, by omega, by go_num, rfl, Lib.hid (by rw [HC.out, HST.out, hch]), hb3, hbx2⟩
              case measure => show vals.length - ((k : Int) + 1).toNat < vals.length - (k : Int).toNat; omega
          · have hk1 : (0 < k) = False := eq_false hk0
            have hpv : prevAt vals k = none := by cases k with | zero => rfl | succ j => omega
            have HPV := Lib.hid hpv
            clear hpv hk0
            go_wp2_with (first | (go_at_call 27; refine (hval _ (GL.of_below hG hb)).mono ?_; rintro e w2 ⟨rfl, hb2⟩; have hbx2 := blk_below hbx hb2; obtain ⟨fc2, ff2⟩ := six_facts hbx2; have hb3 := below_then hb hb.size hb2))
            have hch : chk1 false lo hi (prevAt vals k) v false = false := by (unfold chk1; simp [hv, HPV.out])
            go_roundw
            case rel => exact ⟨k + 1, false, by omega, by go_num, rfl, Lib.hid (by rw [HC.out, HST.out, hch]), hb3, hbx2⟩
            case measure => show vals.length - ((k : Int) + 1).toNat < vals.length - (k : Int).toNat; omega
    · have hke : k = vals.length := by omega
      subst hke
      have hE : Hid (chkL false lo hi none vals (chk0 neg false vals lo hi) = b) := Lib.hid (by rw [HC.out, chkL_end])
      cases b with
      | true =>
        go_wp2_with fail
        go_ret
        refine ⟨congrArg (fun z => Ending.returned (Value.int .i64 z)) ?_, hb⟩
        unfold checkP checkB
        rw [hE.out]
        simp []
      | false =>
        go_wp2_with fail
        go_ret
        refine ⟨congrArg (fun z => Ending.returned (Value.int .i64 z)) ?_, hb⟩
        unfold checkP checkB
        rw [hE.out]
        simp []
end Go.Proofs.YtblfbdlhphhfnaaGreatDoor.PA
namespace Go.Proofs.YtblfbdlhphhfnaaGreatDoor.PA
open Go.RowKit Go.Maps Go.Sort Go.Shelf Go.Proofs.YtblfbdlhphhfnaaGreatDoorW.PrintWords Go.Proofs.YtblfbdlhphhfnaaGreatDoorW.PrintLast
set_option linter.unusedVariables false
set_option linter.unusedSimpArgs false
set_option maxHeartbeats 4000000 in
set_option maxRecDepth 100000 in
theorem check_on1 (miss : Bool) (A : Option Addr) (c : Nat) (vals : List ByteArray) (lo hi : Int) (w : World) (hr : Kd.C Kd.string w A vals.length vals) (hc : vals.length ≤ c) (hs : ∀ s ∈ vals, s.size ≤ 140737488351232) (hG : GL w) :
    Calls Tryz.prog 41 #[.agg #[.bool miss, .bool false, .bool true, .slice A vals.length c, .int .i64 lo, .int .i64 hi]] w fun e w' => e = .returned (.int .i64 (checkP false true vals lo hi)) ∧ Below w.heap.size w w' := by
  have hnl : vals.length ≤ 9223372036854775807 := hr.2.1
  have HR := Lib.hid hr
  clear hr
  have hb0 : Below w.heap.size w (w.alloc (.cells #[.bool miss, .bool false, .bool true, .slice A vals.length c, .int .i64 lo, .int .i64 hi] 42)) := (Below.refl w.heap.size w).alloc (Nat.le_refl _) _
  have hbox := blk_new w (.cells #[.bool miss, .bool false, .bool true, .slice A vals.length c, .int .i64 lo, .int .i64 hi] 42)
  go_enter Tryz.func41, Tryz.ntmps41
  go_upto_region 1 with fail
  go_cut [3] (fun b wx => b = .bool (chk0 false true vals lo hi) ∧ wx = w.alloc (.cells #[.bool miss, .bool false, .bool true, .slice A vals.length c, .int .i64 lo, .int .i64 hi] 42))
  case first =>
    cases hql : (lo != 0)
    all_goals go_wp2_with fail
    all_goals go_meet
    all_goals refine ⟨congrArg Value.bool ?_, rfl⟩
    all_goals (first | (exfalso; omega) | (unfold chk0; simp [*]))
  case rest =>
  obtain ⟨rfl, rfl⟩ := hcut
  go_wp2_with fail
  go_loopw [3, 4, 5, 6, 7, 39] (fun b _ _ _ _ i wr => ∃ (k : Nat) (b' : Bool), k ≤ vals.length ∧ i = .int .i64 k ∧ b = .bool b' ∧ Hid (chkL true lo hi none vals (chk0 false true vals lo hi) = chkL true lo hi (prevAt vals k) (vals.drop k) b') ∧ Below w.heap.size w wr ∧ wr.heap[w.heap.size]? = some (.cells #[.bool miss, .bool false, .bool true, .slice A vals.length c, .int .i64 lo, .int .i64 hi] 42 (0, 0))) (fun _ _ _ _ _ i _ => vals.length - (intOf i).toNat)
  case atStart => exact ⟨0, _, Nat.zero_le _, rfl, rfl, Lib.hid rfl, hb0, hbox⟩
  case round =>
    obtain ⟨k, b, hk, rfl, rfl, HC, hb, hbx⟩ := hrel
    obtain ⟨fc, ff⟩ := six_facts hbx
    by_cases hlt : k < vals.length
    · have hst := chkL_step (num := true) (lo := lo) (hi := hi) hlt b
      obtain ⟨ad, cs, rfl, _, hK, hcell⟩ := Kd.C_get (Kd.C_below HR.out hb) ByteArray.empty k (by omega) (by omega)
      have hK' : cs = [.string (vals.getD k ByteArray.empty)] := by simpa [Kd.string, Kd.scalar] using hK
      subst hK'
      have hx : wr.cell? (ad.add k) = some (.string (vals.getD k ByteArray.empty)) := by simpa [Kd.string, Kd.scalar] using hcell 0 _ rfl
      clear hcell hK
      obtain ⟨v, ev⟩ : ∃ v, v = vals.getD k ByteArray.empty := ⟨_, rfl⟩
      have hvs : v.size ≤ 140737488351232 := hs v (by rw [ev, List.getD_eq_getElem?_getD, List.getElem?_eq_getElem hlt]; exact List.getElem_mem _)
      rw [← ev] at hx hst
      have HST := Lib.hid hst
      clear hst ev
      have hval := fun W h => Value_calls v hvs W h
      cases b with
      | true =>
        go_wp2_with fail
        have hch : chk1 true lo hi (prevAt vals k) v true = true := by (unfold chk1; simp [])
        go_roundw
        case rel => exact ⟨k + 1, true, by omega, by go_num, rfl, Lib.hid (by rw [HC.out, HST.out, hch]), hb, hbx⟩
        case measure => show vals.length - ((k : Int) + 1).toNat < vals.length - (k : Int).toNat; omega
      | false =>
        cases hv : isValue v with
        | false =>
          rw [hv] at hval
          go_wp2_with (first | (go_at_call 27; refine (hval _ (GL.of_below hG hb)).mono ?_; rintro e w2 ⟨rfl, hb2⟩; have hbx2 := blk_below hbx hb2; obtain ⟨fc2, ff2⟩ := six_facts hbx2; have hb3 := below_then hb hb.size hb2))
          have hch : chk1 true lo hi (prevAt vals k) v false = true := by (unfold chk1; simp [hv])
          go_roundw
          case rel => exact ⟨k + 1, true, by omega, by go_num, rfl, Lib.hid (by rw [HC.out, HST.out, hch]), hb3, hbx2⟩
          case measure => show vals.length - ((k : Int) + 1).toNat < vals.length - (k : Int).toNat; omega
        | true =>
          rw [hv] at hval
          by_cases hk0 : 0 < k
          · obtain ⟨ad3, cs2, had, _, hK2, hcell2⟩ := Kd.C_get (Kd.C_below HR.out hb) ByteArray.empty (((k - 1 : Nat) : Int)) (by omega) (by omega)
            obtain rfl := Option.some.inj had
            have hK3 : cs2 = [.string (vals.getD (k - 1) ByteArray.empty)] := by simpa [Kd.string, Kd.scalar] using hK2
            subst hK3
            have hxp : wr.cell? (ad.add (k - 1)) = some (.string (vals.getD (k - 1) ByteArray.empty)) := by simpa [Kd.string, Kd.scalar] using hcell2 0 _ rfl
            have hpv : prevAt vals k = some (vals.getD (k - 1) ByteArray.empty) := by cases k with | zero => omega | succ j => rfl
            clear hcell2 hK2
            obtain ⟨p, ep⟩ : ∃ p, p = vals.getD (k - 1) ByteArray.empty := ⟨_, rfl⟩
            rw [← ep] at hxp hpv
            have HPV := Lib.hid hpv
            clear hpv ep
            have hw1 : IntKind.i64.wrap ((k : Int) - 1) = (k : Int) - 1 := IntWalk.i64_in _ (by omega)
            have hw2 : 0 ≤ (k : Int) - 1 := by omega
            have hw3 : ((k : Int) - 1).toNat = k - 1 := by omega
            have hw4 : (k : Int) - 1 < vals.length := by omega
            have hk1 : (0 < k) = True := eq_true hk0
            cases hps : Op.bytesLess p.toList v.toList with
            | false =>
              have hps2 : ltS p v = false := by unfold ltS; rw [← ByteArray.toList_eq, ← ByteArray.toList_eq]; exact hps
              go_wp2_with (first | (go_at_call 27; refine (hval _ (GL.of_below hG hb)).mono ?_; rintro e w2 ⟨rfl, hb2⟩; have hbx2 := blk_below hbx hb2; obtain ⟨fc2, ff2⟩ := six_facts hbx2; have hb3 := below_then hb hb.size hb2; have hxp2 : w2.cell? (ad.add (k - 1)) = _ := pw_cell_below hb2 hxp))
              have hch : chk1 true lo hi (prevAt vals k) v false = true := by (unfold chk1; simp [hv, HPV.out, hps2])
              go_roundw
              case rel => exact ⟨k + 1, true, by omega, by go_num, rfl, Lib.hid (by rw [HC.out, HST.out, hch]), hb3, hbx2⟩
              case measure => show vals.length - ((k : Int) + 1).toNat < vals.length - (k : Int).toNat; omega
            | true =>
              have HPS : Hid (ltS p v = true) := Lib.hid (by unfold ltS; rw [← ByteArray.toList_eq, ← ByteArray.toList_eq]; exact hps)
              rcases hnm : numR v.data.toList with ⟨m, is⟩
              have hnum := fun W h => valset_Number.calls v m is W h (by unfold valset_Number.f; rw [if_pos hvs, hnm])
              have HNM := Lib.hid hnm
              clear hnm
              cases is with
              | false =>
                go_wp2_with (first | (go_at_call 27; refine (hval _ (GL.of_below hG hb)).mono ?_; rintro e w2 ⟨rfl, hb2⟩; have hbx2 := blk_below hbx hb2; obtain ⟨fc2, ff2⟩ := six_facts hbx2; have hb3 := below_then hb hb.size hb2; have hxp2 : w2.cell? (ad.add (k - 1)) = _ := pw_cell_below hb2 hxp) | (go_at_call 49; refine (hnum _ (GL.of_below hG hb3)).mono ?_; rintro e w3 ⟨rfl, hb4⟩; have hbx3 := blk_below hbx2 hb4; obtain ⟨fc3, ff3⟩ := six_facts hbx3; have hb5 := below_then hb3 hb3.size hb4))
                have hch : chk1 true lo hi (prevAt vals k) v false = true := by (unfold chk1; simp [hv, HNM.out, HPV.out, HPS.out])
                go_roundw
                case rel => exact ⟨k + 1, true, by omega, by go_num, rfl, Lib.hid (by rw [HC.out, HST.out, hch]), hb5, hbx3⟩
                case measure => show vals.length - ((k : Int) + 1).toNat < vals.length - (k : Int).toNat; omega
              | true =>
                by_cases hm1 : m ≤ lo
                · go_wp2_with (first | (go_at_call 27; refine (hval _ (GL.of_below hG hb)).mono ?_; rintro e w2 ⟨rfl, hb2⟩; have hbx2 := blk_below hbx hb2; obtain ⟨fc2, ff2⟩ := six_facts hbx2; have hb3 := below_then hb hb.size hb2; have hxp2 : w2.cell? (ad.add (k - 1)) = _ := pw_cell_below hb2 hxp) | (go_at_call 49; refine (hnum _ (GL.of_below hG hb3)).mono ?_; rintro e w3 ⟨rfl, hb4⟩; have hbx3 := blk_below hbx2 hb4; obtain ⟨fc3, ff3⟩ := six_facts hbx3; have hb5 := below_then hb3 hb3.size hb4))
                  have hch : chk1 true lo hi (prevAt vals k) v false = true := by (unfold chk1; simp [hv, HNM.out, hm1, HPV.out, HPS.out])
                  go_roundw
                  case rel => exact ⟨k + 1, true, by omega, by go_num, rfl, Lib.hid (by rw [HC.out, HST.out, hch]), hb5, hbx3⟩
                  case measure => show vals.length - ((k : Int) + 1).toNat < vals.length - (k : Int).toNat; omega
                · by_cases hm2 : hi ≤ m
                  · go_wp2_with (first | (go_at_call 27; refine (hval _ (GL.of_below hG hb)).mono ?_; rintro e w2 ⟨rfl, hb2⟩; have hbx2 := blk_below hbx hb2; obtain ⟨fc2, ff2⟩ := six_facts hbx2; have hb3 := below_then hb hb.size hb2; have hxp2 : w2.cell? (ad.add (k - 1)) = _ := pw_cell_below hb2 hxp) | (go_at_call 49; refine (hnum _ (GL.of_below hG hb3)).mono ?_; rintro e w3 ⟨rfl, hb4⟩; have hbx3 := blk_below hbx2 hb4; obtain ⟨fc3, ff3⟩ := six_facts hbx3; have hb5 := below_then hb3 hb3.size hb4))
                    have hch : chk1 true lo hi (prevAt vals k) v false = true := by (unfold chk1; simp [hv, HNM.out, hm2, HPV.out, HPS.out])
                    go_roundw
                    case rel => exact ⟨k + 1, true, by omega, by go_num, rfl, Lib.hid (by rw [HC.out, HST.out, hch]), hb5, hbx3⟩
                    case measure => show vals.length - ((k : Int) + 1).toNat < vals.length - (k : Int).toNat; omega
                  · go_wp2_with (first | (go_at_call 27; refine (hval _ (GL.of_below hG hb)).mono ?_; rintro e w2 ⟨rfl, hb2⟩; have hbx2 := blk_below hbx hb2; obtain ⟨fc2, ff2⟩ := six_facts hbx2; have hb3 := below_then hb hb.size hb2; have hxp2 : w2.cell? (ad.add (k - 1)) = _ := pw_cell_below hb2 hxp) | (go_at_call 49; refine (hnum _ (GL.of_below hG hb3)).mono ?_; rintro e w3 ⟨rfl, hb4⟩; have hbx3 := blk_below hbx2 hb4; obtain ⟨fc3, ff3⟩ := six_facts hbx3; have hb5 := below_then hb3 hb3.size hb4))
                    have hch : chk1 true lo hi (prevAt vals k) v false = (decide (m ≤ lo) || decide (hi ≤ m)) := by (unfold chk1; simp [hv, HNM.out, HPV.out, HPS.out])
                    go_roundw
                    case rel => exact ⟨k + 1, (decide (m ≤ lo) || decide (hi ≤ m)), by omega, by go_num, rfl, Lib.hid (by rw [HC.out, HST.out, hch]), hb5, hbx3⟩
                    case measure => show vals.length - ((k : Int) + 1).toNat < vals.length - (k : Int).toNat; omega
          · have hk1 : (0 < k) = False := eq_false hk0
            have hpv : prevAt vals k = none := by cases k with | zero => rfl | succ j => omega
            have HPV := Lib.hid hpv
            clear hpv hk0
            rcases hnm : numR v.data.toList with ⟨m, is⟩
            have hnum := fun W h => valset_Number.calls v m is W h (by unfold valset_Number.f; rw [if_pos hvs, hnm])
            have HNM := Lib.hid hnm
            clear hnm
            cases is with
            | false =>
              go_wp2_with (first | (go_at_call 27; refine (hval _ (GL.of_below hG hb)).mono ?_; rintro e w2 ⟨rfl, hb2⟩; have hbx2 := blk_below hbx hb2; obtain ⟨fc2, ff2⟩ := six_facts hbx2; have hb3 := below_then hb hb.size hb2) | (go_at_call 49; refine (hnum _ (GL.of_below hG hb3)).mono ?_; rintro e w3 ⟨rfl, hb4⟩; have hbx3 := blk_below hbx2 hb4; obtain ⟨fc3, ff3⟩ := six_facts hbx3; have hb5 := below_then hb3 hb3.size hb4))
              have hch : chk1 true lo hi (prevAt vals k) v false = true := by (unfold chk1; simp [hv, HNM.out, HPV.out])
              go_roundw
              case rel => exact ⟨k + 1, true, by omega, by go_num, rfl, Lib.hid (by rw [HC.out, HST.out, hch]), hb5, hbx3⟩
              case measure => show vals.length - ((k : Int) + 1).toNat < vals.length - (k : Int).toNat; omega
            | true =>
              by_cases hm1 : m ≤ lo
              · go_wp2_with (first | (go_at_call 27; refine (hval _ (GL.of_below hG hb)).mono ?_; rintro e w2 ⟨rfl, hb2⟩; have hbx2 := blk_below hbx hb2; obtain ⟨fc2, ff2⟩ := six_facts hbx2; have hb3 := below_then hb hb.size hb2) | (go_at_call 49; refine (hnum _ (GL.of_below hG hb3)).mono ?_; rintro e w3 ⟨rfl, hb4⟩; have hbx3 := blk_below hbx2 hb4; obtain ⟨fc3, ff3⟩ := six_facts hbx3; have hb5 := below_then hb3 hb3.size hb4))
                have hch : chk1 true lo hi (prevAt vals k) v false = true := by (unfold chk1; simp [hv, HNM.out, hm1, HPV.out])
                go_roundw
                case rel => exact ⟨k + 1, true, by omega, by go_num, rfl, Lib.hid (by rw [HC.out, HST.out, hch]), hb5, hbx3⟩
                case measure => show vals.length - ((k : Int) + 1).toNat < vals.length - (k : Int).toNat; omega
              · by_cases hm2 : hi ≤ m
                · go_wp2_with (first | (go_at_call 27; refine (hval _ (GL.of_below hG hb)).mono ?_; rintro e w2 ⟨rfl, hb2⟩; have hbx2 := blk_below hbx hb2; obtain ⟨fc2, ff2⟩ := six_facts hbx2; have hb3 := below_then hb hb.size hb2) | (go_at_call 49; refine (hnum _ (GL.of_below hG hb3)).mono ?_; rintro e w3 ⟨rfl, hb4⟩; have hbx3 := blk_below hbx2 hb4; obtain ⟨fc3, ff3⟩ := six_facts hbx3; have hb5 := below_then hb3 hb3.size hb4))
                  have hch : chk1 true lo hi (prevAt vals k) v false = true := by (unfold chk1; simp [hv, HNM.out, hm2, HPV.out])
                  go_roundw
                  case rel => exact ⟨k + 1, true, by omega, by go_num, rfl, Lib.hid (by rw [HC.out, HST.out, hch]), hb5, hbx3⟩
                  case measure => show vals.length - ((k : Int) + 1).toNat < vals.length - (k : Int).toNat; omega
                · go_wp2_with (first | (go_at_call 27; refine (hval _ (GL.of_below hG hb)).mono ?_; rintro e w2 ⟨rfl, hb2⟩; have hbx2 := blk_below hbx hb2; obtain ⟨fc2, ff2⟩ := six_facts hbx2; have hb3 := below_then hb hb.size hb2) | (go_at_call 49; refine (hnum _ (GL.of_below hG hb3)).mono ?_; rintro e w3 ⟨rfl, hb4⟩; have hbx3 := blk_below hbx2 hb4; obtain ⟨fc3, ff3⟩ := six_facts hbx3; have hb5 := below_then hb3 hb3.size hb4))
                  have hch : chk1 true lo hi (prevAt vals k) v false = (decide (m ≤ lo) || decide (hi ≤ m)) := by (unfold chk1; simp [hv, HNM.out, HPV.out])
                  go_roundw
                  case rel => exact ⟨k + 1, (decide (m ≤ lo) || decide (hi ≤ m)), by omega, by go_num, rfl, Lib.hid (by rw [HC.out, HST.out, hch]), hb5, hbx3⟩
                  case measure => show vals.length - ((k : Int) + 1).toNat < vals.length - (k : Int).toNat; omega
    · have hke : k = vals.length := by omega
      subst hke
      have hE : Hid (chkL true lo hi none vals (chk0 false true vals lo hi) = b) := Lib.hid (by rw [HC.out, chkL_end])
      cases b with
      | true =>
        go_wp2_with fail
        go_ret
        refine ⟨congrArg (fun z => Ending.returned (Value.int .i64 z)) ?_, hb⟩
        unfold checkP checkB
        rw [hE.out]
        simp []
      | false =>
        by_cases q1 : lo < -2147483648
        · go_wp2_with fail
          go_ret
          refine ⟨congrArg (fun z => Ending.returned (Value.int .i64 z)) ?_, hb⟩
          unfold checkP checkB
          rw [hE.out]
          simp [q1]
        · by_cases q2 : 2147483648 < hi
          · go_wp2_with fail
            go_ret
            refine ⟨congrArg (fun z => Ending.returned (Value.int .i64 z)) ?_, hb⟩
            unfold checkP checkB
            rw [hE.out]
            simp [q2]
          · by_cases q3 : hi < lo
            · go_wp2_with fail
              go_ret
              refine ⟨congrArg (fun z => Ending.returned (Value.int .i64 z)) ?_, hb⟩
              unfold checkP checkB
              rw [hE.out]
              simp [q3]
            · have w1 : IntKind.i64.wrap (hi - lo) = hi - lo := IntWalk.i64_in _ (by omega)
              have w2 : IntKind.i64.wrap (hi - lo + 1) = hi - lo + 1 := IntWalk.i64_in _ (by omega)
              have w3 : IntKind.i64.wrap (hi - lo + 1 - (vals.length : Int)) = hi - lo + 1 - (vals.length : Int) := IntWalk.i64_in _ (by omega)
              by_cases q4 : hi - lo + 1 - (vals.length : Int) ≤ 64
              · go_wp2_with fail
                go_ret
                refine ⟨congrArg (fun z => Ending.returned (Value.int .i64 z)) ?_, hb⟩
                unfold checkP checkB
                rw [hE.out]
                simp [q4]
              · go_wp2_with fail
                go_ret
                refine ⟨congrArg (fun z => Ending.returned (Value.int .i64 z)) ?_, hb⟩
                unfold checkP checkB
                rw [hE.out]
                simp [q1, q2, q3, q4]
end Go.Proofs.YtblfbdlhphhfnaaGreatDoor.PA
