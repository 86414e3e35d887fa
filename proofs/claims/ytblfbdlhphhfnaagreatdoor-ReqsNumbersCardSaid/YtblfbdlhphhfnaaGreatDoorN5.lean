import Derived.Test.YtblfbdlhphhfnaaGreatDoorN4
import Derived.Lib.SmallJoins
import Derived.Lib.LaidTab
import Derived.Lib.Hide
import Derived.Lib.ItoaNum
namespace Go.Proofs.YtblfbdlhphhfnaaGreatDoor.PA
open Go.RowKit
/-- The three package variables that strconv reads, as they were laid. -/
def GL (w : World) : Prop :=
  (∃ t p, w.var? Tryz.prog "strconv.ErrSyntax" = some #[.iface t p]) ∧ (∃ t p, w.var? Tryz.prog "strconv.ErrRange" = some #[.iface t p]) ∧ Lib.TabIs Tryz.prog w "internal/strconv.uint64pow10" .u64 Lib.pow10Tab
theorem gn1 : Tryz.prog.globalNamed "strconv.ErrSyntax" = some (Tryz.prog.globalNamed "strconv.ErrSyntax" |>.getD 0) := by kernel_rfl
theorem gn2 : Tryz.prog.globalNamed "strconv.ErrRange" = some (Tryz.prog.globalNamed "strconv.ErrRange" |>.getD 0) := by kernel_rfl
theorem gn3 : Tryz.prog.globalNamed "internal/strconv.uint64pow10" = some (Tryz.prog.globalNamed "internal/strconv.uint64pow10" |>.getD 0) := by kernel_rfl
theorem GL.of_below {w W : World} (h : GL w) (hb : Below w.heap.size w W) : GL W := by
  obtain ⟨⟨t1, p1, h1⟩, ⟨t2, p2, h2⟩, h3⟩ := h
  exact ⟨⟨t1, p1, Joins.var_stays gn1 h1 hb (Nat.le_refl _)⟩, ⟨t2, p2, Joins.var_stays gn2 h2 hb (Nat.le_refl _)⟩, Joins.tab_stays gn3 h3 hb (Nat.le_refl _)⟩
theorem bcell {W w1 : World} (hb : Below W.heap.size W w1) : (∀ b o, b < W.heap.size → w1.cell? ⟨b, o, none⟩ = W.cell? ⟨b, o, none⟩) ∧ (∀ b o, b < W.heap.size → w1.frozen? ⟨b, o, none⟩ = W.frozen? ⟨b, o, none⟩) :=
  ⟨fun b o h => hb.cell (p := ⟨b, o, none⟩) h, fun b o h => hb.frozen (p := ⟨b, o, none⟩) h⟩
end Go.Proofs.YtblfbdlhphhfnaaGreatDoor.PA
