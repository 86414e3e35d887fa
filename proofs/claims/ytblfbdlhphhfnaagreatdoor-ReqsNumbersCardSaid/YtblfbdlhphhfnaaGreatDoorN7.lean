import Derived.Test.YtblfbdlhphhfnaaGreatDoorN5
import Derived.Deep.LoopGhost
import Derived.Shelf.SlicesQ.IndexFunc
namespace Go.Proofs.YtblfbdlhphhfnaaGreatDoor.PA
open Go.RowKit Go.Shelf Go.Proofs.YtblfbdlhphhfnaaGreatDoorW.PrintWords Go.Proofs.YtblfbdlhphhfnaaGreatDoorW.PrintLast
set_option linter.unusedVariables false
/-- The first place at which p holds, or -1. -/
def idxP {α : Type} (p : α → Bool) : List α → Int → Int
  | [], _ => -1
  | x :: r, i => if p x then i else idxP p r (i + 1)
theorem idxP_any {α : Type} (p : α → Bool) : ∀ (l : List α) (i : Int), 0 ≤ i → decide (0 ≤ idxP p l i) = l.any p
  | [], i, h => rfl
  | x :: r, i, h => by
    unfold idxP
    cases hx : p x with
    | true => simp [hx, h]
    | false => simp only [Bool.false_eq_true, if_false, List.any_cons, hx, Bool.false_or]; exact idxP_any p r (i + 1) (by omega)
/-- What is asked of a predicate on texts. -/
def PredS (g : Nat) (lb : Array Value) (l : List ByteArray) (p : ByteArray → Bool) (w : World) : Prop :=
  ∀ (W : World) (x : ByteArray), x ∈ l → Below w.heap.size w W → Calls Tryz.prog g (#[.string x] ++ lb) W fun e w' => e = .returned (.bool (p x)) ∧ Below w.heap.size w w'
set_option maxHeartbeats 1000000 in
set_option maxRecDepth 100000 in
theorem indexFuncS (g : Nat) (lb : Array Value) (eg : ∀ args w, (callFunc g args).run Tryz.prog w = .ok (.enter g args) w) (A : Option Addr) (c : Nat) (l : List ByteArray) (p : ByteArray → Bool) (w : World) (hr : Kd.C Kd.string w A l.length l) (hc : l.length ≤ c) (hp : PredS g lb l p w) :
    Calls Tryz.prog 96 #[.slice A l.length c, .func (.func g) #[] lb] w fun e w' => e = .returned (.int .i64 (idxP p l 0)) ∧ Below w.heap.size w w' := by
  have hnl : l.length ≤ 9223372036854775807 := hr.2.1
  have HP := Lib.hid hp; clear hp
  have HR := Lib.hid hr; clear hr
  go_enter Tryz.func96, Tryz.ntmps96
  go_wp2
  go_loopw [5, 8] (fun _ i wr => ∃ k : Nat, k ≤ l.length ∧ i = .int .i64 k ∧ Hid (idxP p l 0 = idxP p (l.drop k) k) ∧ Below w.heap.size w wr) (fun _ i _ => l.length - (intOf i).toNat)
  case atStart => exact ⟨0, Nat.zero_le _, rfl, Lib.hid rfl, Below.refl _ _⟩
  case round =>
    obtain ⟨k, hk, rfl, HI, hb⟩ := hrel
    by_cases hlt : k < l.length
    · obtain ⟨ad, cs, rfl, _, hK, hcell⟩ := Kd.C_get (Kd.C_below HR.out hb) ByteArray.empty k (by omega) (by omega)
      have hK' : cs = [.string (l.getD k ByteArray.empty)] := by simpa [Kd.string, Kd.scalar] using hK
      subst hK'
      have hx : wr.cell? (ad.add k) = some (.string (l.getD k ByteArray.empty)) := by simpa [Kd.string, Kd.scalar] using hcell 0 _ rfl
      obtain ⟨s, es⟩ : ∃ s, s = l.getD k ByteArray.empty := ⟨_, rfl⟩
      have hs : s = l[k] := by rw [es, List.getD_eq_getElem?_getD, List.getElem?_eq_getElem hlt]; rfl
      have hcall := HP.out wr s (by rw [hs]; exact List.getElem_mem _) hb
      have hd : idxP p (l.drop k) k = if p s then (k : Int) else idxP p (l.drop (k + 1)) ((k : Int) + 1) := by
        rw [List.drop_eq_getElem_cons hlt, idxP, ← hs]
      have HD := Lib.hid hd
      clear hcell hK hd hs
      rw [← es] at hx
      clear es
      cases hq : p s with
      | true =>
        rw [hq] at hcall
        have HQ := Lib.hid hq; clear hq
        go_wp2_with (go_at_fn g; refine hcall.mono ?_; rintro e w' ⟨rfl, hb'⟩)
        go_ret
        exact ⟨by rw [HI.out, HD.out, HQ.out]; rfl, hb'⟩
      | false =>
        rw [hq] at hcall
        have HQ := Lib.hid hq; clear hq
        go_wp2_with (go_at_fn g; refine hcall.mono ?_; rintro e w' ⟨rfl, hb'⟩)
        go_roundw
        case rel => exact ⟨k + 1, by omega, by go_num, Lib.hid (by rw [HI.out, HD.out, HQ.out]; simp), hb'⟩
        case measure => show l.length - ((k : Int) + 1).toNat < l.length - (k : Int).toNat; omega
    · have hke : k = l.length := by omega
      subst hke
      go_wp2
      go_ret
      exact ⟨by rw [HI.out, List.drop_length]; rfl, hb⟩
set_option maxHeartbeats 1000000 in
theorem containsFuncS (g : Nat) (lb : Array Value) (eg : ∀ args w, (callFunc g args).run Tryz.prog w = .ok (.enter g args) w) (A : Option Addr) (c : Nat) (l : List ByteArray) (p : ByteArray → Bool) (w : World) (hr : Kd.C Kd.string w A l.length l) (hc : l.length ≤ c) (hp : PredS g lb l p w) :
    Calls Tryz.prog 82 #[.slice A l.length c, .func (.func g) #[] lb] w fun e w' => e = .returned (.bool (l.any p)) ∧ Below w.heap.size w w' := by
  rw [← idxP_any p l 0 (Int.le_refl _)]
  have h := indexFuncS g lb eg A c l p w hr hc hp
  clear hp hr
  generalize idxP p l 0 = r at h ⊢
  go_enter Tryz.func82, Tryz.ntmps82
  go_wp2_with (go_at_call 96; refine h.mono ?_; rintro e w' ⟨rfl, hb'⟩)
  go_ret
  exact ⟨rfl, hb'⟩
end Go.Proofs.YtblfbdlhphhfnaaGreatDoor.PA
