import Derived.Test.YtblfbdlhphhfnaaGreatDoorN5
import Derived.Test.YtblfbdlhphhfnaaGreatDoorN8
import Derived.Lib.AppendIntMem
namespace Go.Proofs.YtblfbdlhphhfnaaGreatDoor.PA
open Go.RowKit Go.Shelf Go.Proofs.YtblfbdlhphhfnaaGreatDoorW.PrintWords Go.Proofs.YtblfbdlhphhfnaaGreatDoorW.PrintLast
theorem std_format (n : Int) (h0 : -9223372036854775808 ≤ n) (h1 : n ≤ 9223372036854775807) (w : World) (hG : GL w) :
    Calls Tryz.prog 61 #[.int .i64 n, .int .i64 10] w fun e w' => e = .returned (.string ⟨(Lib.itoa n).toArray⟩) ∧ Below w.heap.size w w' := by
  have h := Any.strconv_FormatInt_10 Tryz.laysM173 n h0 h1 w hG.2.2
  exact h.mono fun e w' ⟨he, k, os, hw⟩ => ⟨he, by rw [hw]; exact Lib.below_grow _ _ (Nat.le_refl _) _ _⟩
theorem std_parse_ok (s : ByteArray) (hs : s.size ≤ 140737488351232) (v : Int) (h : Lib.parseIntB 64 s.data.toList = .ok v) (w : World) :
    Calls Tryz.prog 73 #[.string s, .int .i64 10, .int .i64 64] w fun e w' => e = .returned (.tuple #[.int .i64 v, .nilIface]) ∧ Below w.heap.size w w' := by
  have h := Any.strconv_ParseInt_10_at64_ok Tryz.laysC174 s (by omega) v h w
  refine h.mono fun e w' ⟨he, hw⟩ => ⟨he, ?_⟩
  rcases hw with hw | ⟨t, hw⟩
  · rw [hw]; exact Below.refl _ _
  · rw [hw]; exact bytes_below (Below.refl _ _) (Nat.le_refl _) _ _
theorem std_parse_bad (s : ByteArray) (hs : s.size ≤ 140737488351232) (h : ∀ v, Lib.parseIntB 64 s.data.toList ≠ .ok v) (w : World) (hG : GL w) :
    Calls Tryz.prog 73 #[.string s, .int .i64 10, .int .i64 64] w fun e w' => ∃ (v : Int) (N : Nat), e = .returned (.tuple #[.int .i64 v, .iface 142 (.pointer (some ⟨N, 0, none⟩))]) ∧ Below w.heap.size w w' := by
  obtain ⟨⟨t1, p1, g1⟩, ⟨t2, p2, g2⟩, _⟩ := hG
  cases hp : Lib.parseIntB 64 s.data.toList with
  | ok v => exact absurd hp (h v)
  | «syntax» => exact (Any.strconv_ParseInt_10_at64_syntax_var Tryz.laysC174 s (by omega) hp t1 p1 w g1).mono fun e w' ⟨N, he, _, _, hb⟩ => ⟨0, N, he, hb⟩
  | range => exact (Any.strconv_ParseInt_10_at64_range_var Tryz.laysC174 s (by omega) hp t2 p2 w g2).mono fun e w' ⟨N, he, _, _, hb⟩ => ⟨_, N, he, hb⟩
end Go.Proofs.YtblfbdlhphhfnaaGreatDoor.PA
