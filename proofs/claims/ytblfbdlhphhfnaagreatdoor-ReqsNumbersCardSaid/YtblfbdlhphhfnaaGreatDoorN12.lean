import Derived.Test.YtblfbdlhphhfnaaGreatDoorN5
namespace Go.Proofs.YtblfbdlhphhfnaaGreatDoor.PA
open Go.RowKit Go.Proofs.YtblfbdlhphhfnaaGreatDoorW.PrintWords Go.Proofs.YtblfbdlhphhfnaaGreatDoorW.PrintLast
set_option linter.unusedVariables false
set_option linter.unusedSimpArgs false
def nmSmall (c : Int) : Bool := decide (97 ≤ c) && decide (c ≤ 122)
def nmBad (first : Bool) (c : Int) : Bool := !nmSmall c && (first || (!(c == 46) && !(c == 45) && (decide (c < 48) || decide (57 < c))))
def nmScan (first : Bool) : List UInt8 → Bool
  | [] => true
  | c :: r => !nmBad first (c.toNat : Int) && nmScan false r
def isName (l : List UInt8) : Bool := nmScan true l && !l.isEmpty && decide (l.length ≤ 16)
def valset_Name.f (a0 : ByteArray) : Option Bool := if a0.size ≤ 140737488351232 then some (isName a0.data.toList) else none
theorem nmScan_step (l : List UInt8) (k : Nat) (hk : k < l.length) (c : Int) (ec : c = ((l[k]'hk).toNat : Int)) :
    nmScan (decide (k = 0)) (l.drop k) = (!nmBad (decide (k = 0)) c && nmScan (decide (k + 1 = 0)) (l.drop (k + 1))) := by
  rw [List.drop_eq_getElem_cons hk, nmScan, ← ec]
  simp
/-- The ways through a round. -/
theorem nm_cases (k : Nat) (c : Int) :
    (97 ≤ c ∧ c ≤ 122 ∧ nmBad (decide (k = 0)) c = false) ∨ (c < 97 ∧ k = 0 ∧ nmBad (decide (k = 0)) c = true) ∨ (c < 97 ∧ 0 < k ∧ c = 46 ∧ nmBad (decide (k = 0)) c = false) ∨ (c < 97 ∧ 0 < k ∧ c = 45 ∧ nmBad (decide (k = 0)) c = false) ∨
    (0 < k ∧ c < 48 ∧ ¬ c = 46 ∧ ¬ c = 45 ∧ nmBad (decide (k = 0)) c = true) ∨ (0 < k ∧ 48 ≤ c ∧ c ≤ 57 ∧ nmBad (decide (k = 0)) c = false) ∨ (0 < k ∧ 57 < c ∧ c < 97 ∧ nmBad (decide (k = 0)) c = true) ∨ (122 < c ∧ nmBad (decide (k = 0)) c = true) := by
  unfold nmBad nmSmall
  by_cases h1 : 97 ≤ c
  · by_cases h2 : c ≤ 122
    · left; simp [h1, h2]
    · right; right; right; right; right; right; right
      refine ⟨by omega, ?_⟩
      have a : ¬ c = 46 := by omega
      have b : ¬ c = 45 := by omega
      have d : 57 < c := by omega
      simp [h2, a, b, d]
  · by_cases hk : k = 0
    · right; left; refine ⟨by omega, hk, ?_⟩; simp [h1, hk]
    · by_cases h46 : c = 46
      · right; right; left; subst h46; simp [hk]; omega
      · by_cases h45 : c = 45
        · right; right; right; left; subst h45; simp [hk]; omega
        · by_cases h48 : c < 48
          · right; right; right; right; left; simp [h1, h46, h45, h48]; omega
          · by_cases h57 : c ≤ 57
            · right; right; right; right; right; left
              have e : ¬ 57 < c := by omega
              simp [h46, h45, h48, h57, hk, e]; omega
            · right; right; right; right; right; right; left
              have e : 57 < c := by omega
              simp [h1, h46, h45, hk, e]; omega
theorem Name_conv (s : ByteArray) (W : World) : (convert 9 82 (.string s)).run Tryz.prog W = .ok (.slice (some ⟨W.heap.size, 0, none⟩) s.size (grownCap W s.size 0 5)) (Lib.bytesWorld W 5 s) :=
  print_bytes 9 82 5 Tryz.underlying9 Tryz.underlying82 Tryz.underlying5 s W
set_option maxHeartbeats 800000 in
set_option maxRecDepth 100000 in
theorem valset_Name.calls (a0 : ByteArray) (r : Bool) (w : World) (h : valset_Name.f a0 = some r) :
    Calls Tryz.prog 26 #[.string a0] w fun e w' => e = .returned (.bool r) ∧ Below w.heap.size w w' := by
  unfold valset_Name.f at h
  by_cases hs : a0.size ≤ 140737488351232
  · rw [if_pos hs] at h
    obtain rfl := Option.some.inj h
    clear h
    have hcv := Name_conv a0
    go_enter Tryz.func26, Tryz.ntmps26
    go_wp2
    have hcells := (bytes_reads w 5 a0 (by omega)).2.2
    have hN : isName a0.data.toList = (nmScan (decide ((0 : Nat) = 0)) (a0.data.toList.drop 0) && !a0.data.toList.isEmpty && decide (a0.data.toList.length ≤ 16)) := rfl
    go_loop [9] (fun i => ∃ k : Nat, k ≤ a0.size ∧ i = .int .i64 k ∧ Hid (isName a0.data.toList = (nmScan (decide (k = 0)) (a0.data.toList.drop k) && !a0.data.toList.isEmpty && decide (a0.data.toList.length ≤ 16)))) (fun i => a0.size - (intOf i).toNat)
    case atStart => exact ⟨0, Nat.zero_le _, rfl, hN⟩
    case round =>
      obtain ⟨k, hk, rfl, HN⟩ := hrel
      clear hN
      by_cases hlt : k < a0.size
      · obtain ⟨ad, e, hc⟩ := hcells (by omega)
        injection e with e; subst e
        have hck := hc k hlt
        rw [add_plain] at hck
        have hkl : k < a0.data.toList.length := by rw [data_length]; exact hlt
        obtain ⟨c, ec⟩ : ∃ c : Int, c = (((a0.data.toList)[k]'hkl).toNat : Int) := ⟨_, rfl⟩
        have hck2 : (Lib.bytesWorld w 5 a0).cell? ⟨w.heap.size, k, none⟩ = some (.int .u8 c) := by
          rw [hck, ec]; simp [bytesOf, List.getD_eq_getElem?_getD, List.getElem?_eq_getElem hkl]
        have c0 : 0 ≤ c := by rw [ec]; omega
        have c1 : c ≤ 255 := by rw [ec]; have := (a0.data.toList[k]'hkl).toNat_lt; omega
        have HS := Lib.hid (nmScan_step a0.data.toList k hkl c ec)
        clear hck hc hcells ec
        rcases nm_cases k c with h | h | h | h | h | h | h | h
        case _ =>
          obtain ⟨d1, d2, d⟩ := h
          have HB := Lib.hid d; clear d
          go_wp2
          go_round
          case rel => exact ⟨k + 1, by omega, by go_num, Lib.hid (by rw [HN.out, HS.out, HB.out]; simp)⟩
          case measure => show a0.size - ((k : Int) + 1).toNat < a0.size - (k : Int).toNat; omega
        case _ =>
          obtain ⟨d1, rfl, d⟩ := h
          have HB := Lib.hid d; clear d
          go_wp2
          go_ret
          exact ⟨by rw [HN.out, HS.out, HB.out]; simp, bytes_below (Below.refl _ _) (Nat.le_refl _) _ _⟩
        case _ =>
          obtain ⟨d1, d2, rfl, d⟩ := h
          have HB := Lib.hid d; clear d
          have y1 : ((k : Int) == 0) = false := by simp; omega
          go_wp2
          go_round
          case rel => exact ⟨k + 1, by omega, by go_num, Lib.hid (by rw [HN.out, HS.out, HB.out]; simp)⟩
          case measure => show a0.size - ((k : Int) + 1).toNat < a0.size - (k : Int).toNat; omega
        case _ =>
          obtain ⟨d1, d2, rfl, d⟩ := h
          have HB := Lib.hid d; clear d
          have y1 : ((k : Int) == 0) = false := by simp; omega
          go_wp2
          go_round
          case rel => exact ⟨k + 1, by omega, by go_num, Lib.hid (by rw [HN.out, HS.out, HB.out]; simp)⟩
          case measure => show a0.size - ((k : Int) + 1).toNat < a0.size - (k : Int).toNat; omega
        case _ =>
          obtain ⟨d1, d2, d3, d4, d⟩ := h
          have HB := Lib.hid d; clear d
          have y1 : ((k : Int) == 0) = false := by simp; omega
          have x1 : (c == 46) = false := by simp; omega
          have x2 : (c != 46) = true := by simp; omega
          have x3 : (c == 45) = false := by simp; omega
          have x4 : (c != 45) = true := by simp; omega
          go_wp2
          go_ret
          exact ⟨by rw [HN.out, HS.out, HB.out]; simp, bytes_below (Below.refl _ _) (Nat.le_refl _) _ _⟩
        case _ =>
          obtain ⟨d1, d2, d3, d⟩ := h
          have HB := Lib.hid d; clear d
          have y1 : ((k : Int) == 0) = false := by simp; omega
          have x1 : (c == 46) = false := by simp; omega
          have x2 : (c != 46) = true := by simp; omega
          have x3 : (c == 45) = false := by simp; omega
          have x4 : (c != 45) = true := by simp; omega
          go_wp2
          go_round
          case rel => exact ⟨k + 1, by omega, by go_num, Lib.hid (by rw [HN.out, HS.out, HB.out]; simp)⟩
          case measure => show a0.size - ((k : Int) + 1).toNat < a0.size - (k : Int).toNat; omega
        case _ =>
          obtain ⟨d1, d2, d3, d⟩ := h
          have HB := Lib.hid d; clear d
          have y1 : ((k : Int) == 0) = false := by simp; omega
          have x1 : (c == 46) = false := by simp; omega
          have x2 : (c != 46) = true := by simp; omega
          have x3 : (c == 45) = false := by simp; omega
          have x4 : (c != 45) = true := by simp; omega
          go_wp2
          go_ret
          exact ⟨by rw [HN.out, HS.out, HB.out]; simp, bytes_below (Below.refl _ _) (Nat.le_refl _) _ _⟩
        case _ =>
          obtain ⟨d1, d⟩ := h
          have HB := Lib.hid d; clear d
          have z1 : 97 ≤ c := by omega
          have z2 : decide (c ≤ 122) = false := by simp; omega
          by_cases hk0 : k = 0
          · subst hk0
            go_wp2
            go_ret
            exact ⟨by rw [HN.out, HS.out, HB.out]; simp, bytes_below (Below.refl _ _) (Nat.le_refl _) _ _⟩
          · have y1 : ((k : Int) == 0) = false := by simp; omega
            have x1 : (c == 46) = false := by simp; omega
            have x2 : (c != 46) = true := by simp; omega
            have x3 : (c == 45) = false := by simp; omega
            have x4 : (c != 45) = true := by simp; omega
            go_wp2
            go_ret
            exact ⟨by rw [HN.out, HS.out, HB.out]; simp, bytes_below (Below.refl _ _) (Nat.le_refl _) _ _⟩
      · have hke : k = a0.size := by omega
        subst hke
        have e0 : isName a0.data.toList = (!a0.toList.isEmpty && decide ((a0.size : Int) ≤ 16)) := by
          rw [HN.out, ← data_length, List.drop_length, nmScan, ByteArray.toList_eq, Bool.true_and]
          congr 1
          exact decide_eq_decide.mpr ⟨fun h => by omega, fun h => by omega⟩
        have HE := Lib.hid e0; clear e0
        by_cases hem : a0.toList = []
        · have hem2 : a0.toList.isEmpty = true := by rw [hem]; rfl
          go_wp2
          go_ret
          exact ⟨by rw [HE.out, hem2]; simp, bytes_below (Below.refl _ _) (Nat.le_refl _) _ _⟩
        · go_wp2
          go_ret
          exact ⟨by rw [HE.out]; rfl, bytes_below (Below.refl _ _) (Nat.le_refl _) _ _⟩
  · rw [if_neg hs] at h; cases h
end Go.Proofs.YtblfbdlhphhfnaaGreatDoor.PA
