import Derived.Test.YtblfbdlhphhfnaaGreatDoorN1
import Derived.Test.YtblfbdlhphhfnaaGreatDoorN2
import Derived.Test.YtblfbdlhphhfnaaGreatDoorN3
import Derived.Test.YtblfbdlhphhfnaaGreatDoorProg
import Derived.Below
import Derived.Deep.Draws
import Derived.Deep.AppendLies
import Derived.Maps.AppendAt
import Derived.OwnWalk
import Derived.Laws.BytesArg
import Derived.Laws.MakeOwn
import Derived.Laws.OwnMore
import Derived.Deep.OwnRows
import Derived.Tactics
import Derived.Lib.ConvBytes
import Derived.Laws.Slices
import Derived.WalkKit
import Derived.KernelRfl
import Derived.RowKit3
import Derived.Deep.LoopGhost
import Derived.Deep.QuietTactic
import Derived.BigQuiet
import Derived.WideLaws
import Derived.Deep.DeepCutAuto
import Derived.Deep.CutBlock
import Derived.Deep.RegionHeld3
import Derived.Laws.Rows
import Derived.Lib.AppendStr
import Derived.ArgAppend
import Derived.Laws.IdiomCopy
import Derived.OrdersHeld
import Derived.Laws.BitsLemmas
import Derived.RowKit
namespace Go.Proofs.YtblfbdlhphhfnaaGreatDoor.PA
open Go.RowKit Go.Proofs.YtblfbdlhphhfnaaGreatDoorW.PrintWords Go.Proofs.YtblfbdlhphhfnaaGreatDoorW.PrintLast Go.Proofs.YtblfbdlhphhfnaaGreatDoorW.PrintMore
set_option linter.unusedVariables false
set_option linter.unusedSimpArgs false
def errW : Option Int → Value
  | none => .nilIface
  | some c => .iface 0 (.int .i64 c)
theorem errW_none : errW none = .nilIface := rfl
theorem errW_some (c : Int) : errW (some c) = .iface 0 (.int .i64 c) := rfl
theorem info9 : (Tryz.prog.info? 9).map (fun i => (i.zero, i.size, i.bytes)) = some (some (.string ⟨#[]⟩), 1, 16) := by kernel_rfl
theorem info25 : (Tryz.prog.info? 25).map (fun i => (i.zero, i.size, i.bytes)) = some (some (.agg #[(.string ⟨#[]⟩), (.int .i64 0), (.slice none 0 0), (.int .i64 0)]), 4, 56) := by kernel_rfl
theorem info42 : (Tryz.prog.info? 42).map (fun i => (i.zero, i.size, i.bytes)) = some (some (.agg #[(.bool false), (.bool false), (.bool false), (.slice none 0 0), (.int .i64 0), (.int .i64 0)]), 6, 48) := by kernel_rfl
structure S25 where
  f0 : ByteArray
  f1 : Int
  f2 : (List ByteArray)
  f3 : Int
def z25 : S25 := ⟨(⟨#[]⟩ : ByteArray), (0 : Int), ([] : List ByteArray), (0 : Int)⟩
def k25 : Kd S25 := Kd.iso (Kd.pair Kd.string (Kd.pair (Kd.int .i64) (Kd.pair (Kd.slice 9 Kd.string) (Kd.int .i64)))) (fun x : S25 => (x.f0, x.f1, x.f2, x.f3))
theorem k25_open {w : World} {x : S25} {cs : List Value} (h : k25.K w x cs) : ∃ A2 c2, cs = [.string x.f0, .int .i64 x.f1, .slice A2 x.f2.length c2, .int .i64 x.f3] ∧ x.f2.length ≤ c2 ∧ Kd.string.C w A2 x.f2.length x.f2 := by
  obtain ⟨_, _, rfl, rfl, ⟨_, _, rfl, rfl, ⟨_, _, rfl, ⟨A2, c2, rfl, l2, g2⟩, rfl⟩⟩⟩ := h
  exact ⟨A2, c2, rfl, l2, g2⟩
theorem k25_mk (w : World) (x : S25) {A2 : Option Addr} {c2 : Nat} (l2 : x.f2.length ≤ c2) (g2 : Kd.string.C w A2 x.f2.length x.f2) : k25.K w x [.string x.f0, .int .i64 x.f1, .slice A2 x.f2.length c2, .int .i64 x.f3] := ⟨[.string x.f0], [.int .i64 x.f1, .slice A2 x.f2.length c2, .int .i64 x.f3], rfl, rfl, ⟨[.int .i64 x.f1], [.slice A2 x.f2.length c2, .int .i64 x.f3], rfl, rfl, ⟨[.slice A2 x.f2.length c2], [.int .i64 x.f3], rfl, ⟨A2, c2, rfl, l2, g2⟩, rfl⟩⟩⟩
theorem k25_mkM (w : World) (base : Nat) (ok : Nat → Prop) (x : S25) {v2 : Value} (g2 : Kd.string.R 9 w base ok v2 x.f2) : k25.M w base ok x [.string x.f0, .int .i64 x.f1, v2, .int .i64 x.f3] := ⟨[.string x.f0], [.int .i64 x.f1, v2, .int .i64 x.f3], rfl, rfl, ⟨[.int .i64 x.f1], [v2, .int .i64 x.f3], rfl, rfl, ⟨[v2], [.int .i64 x.f3], rfl, ⟨v2, rfl, g2⟩, rfl⟩⟩⟩
theorem k25_openF {W : World} {ok : Nat → Prop} {x : S25} {cs : List Value} (h : Kd.FK k25 W ok x cs) : ∃ A2 c2, cs = [.string x.f0, .int .i64 x.f1, .slice A2 x.f2.length c2, .int .i64 x.f3] ∧ x.f2.length ≤ c2 ∧ Kd.F Kd.string W ok A2 x.f2.length x.f2 := by
  obtain ⟨A2, c2, rfl, l2, _⟩ := k25_open (Kd.FK_now h)
  exact ⟨A2, c2, rfl, l2, (fun W' hW => by obtain ⟨A2_, c2_, he, l2_, g2_⟩ := k25_open (h W' hW); injection (Option.some.inj (show some (Value.slice A2 x.f2.length c2) = some (Value.slice A2_ x.f2.length c2_) from congrArg (fun l => l[2]?) he)) with ha_ _ _; rw [ha_]; exact g2_)⟩
theorem k25_mkF (W : World) (ok : Nat → Prop) (x : S25) {A2 : Option Addr} {c2 : Nat} (l2 : x.f2.length ≤ c2) (g2 : Kd.F Kd.string W ok A2 x.f2.length x.f2) : Kd.FK k25 W ok x [.string x.f0, .int .i64 x.f1, .slice A2 x.f2.length c2, .int .i64 x.f3] := fun W2 hW => k25_mk W2 x l2 (g2 W2 hW)
def rd_T25 (xs : List S25) (i : Int) : S25 := xs.getD i.toNat z25
theorem at_T25 {w : World} {A : Option Addr} {n : Nat} {xs : List S25} (h : Kd.C k25 w A n xs) (i : Int) (h0 : 0 ≤ i) (h1 : i < n) : ∃ ad A2 c2, A = some ad ∧ w.cell? (ad.add (i.toNat * 4)) = some (.string (rd_T25 xs i).f0) ∧ w.cell? ⟨(ad.add (i.toNat * 4)).block, (ad.add (i.toNat * 4)).off + 1, none⟩ = some (.int .i64 (rd_T25 xs i).f1) ∧ w.cell? ⟨(ad.add (i.toNat * 4)).block, (ad.add (i.toNat * 4)).off + 2, none⟩ = some (.slice A2 (rd_T25 xs i).f2.length c2) ∧ w.cell? ⟨(ad.add (i.toNat * 4)).block, (ad.add (i.toNat * 4)).off + 3, none⟩ = some (.int .i64 (rd_T25 xs i).f3) ∧ (rd_T25 xs i).f2.length ≤ c2 ∧ Kd.string.C w A2 (rd_T25 xs i).f2.length (rd_T25 xs i).f2 := by
  obtain ⟨ad, c, e, _, hK, hc0⟩ := Kd.C_get h z25 i h0 h1
  have hc : ∀ j u, c[j]? = some u → w.cell? (ad.add (i.toNat * 4 + j)) = some u := hc0
  obtain ⟨A2, c2, rfl, l2, g2⟩ := k25_open hK
  exact ⟨ad, A2, c2, e, hc 0 _ rfl, by rw [← add_field _ _ 1 (by omega)]; exact hc 1 _ rfl, by rw [← add_field _ _ 2 (by omega)]; exact hc 2 _ rfl, by rw [← add_field _ _ 3 (by omega)]; exact hc 3 _ rfl, l2, g2⟩
structure S42 where
  f0 : Bool
  f1 : Bool
  f2 : Bool
  f3 : (List ByteArray)
  f4 : Int
  f5 : Int
def z42 : S42 := ⟨false, false, false, ([] : List ByteArray), (0 : Int), (0 : Int)⟩
def k42 : Kd S42 := Kd.iso (Kd.pair Kd.bool (Kd.pair Kd.bool (Kd.pair Kd.bool (Kd.pair (Kd.slice 9 Kd.string) (Kd.pair (Kd.int .i64) (Kd.int .i64)))))) (fun x : S42 => (x.f0, x.f1, x.f2, x.f3, x.f4, x.f5))
theorem k42_open {w : World} {x : S42} {cs : List Value} (h : k42.K w x cs) : ∃ A3 c3, cs = [.bool x.f0, .bool x.f1, .bool x.f2, .slice A3 x.f3.length c3, .int .i64 x.f4, .int .i64 x.f5] ∧ x.f3.length ≤ c3 ∧ Kd.string.C w A3 x.f3.length x.f3 := by
  obtain ⟨_, _, rfl, rfl, ⟨_, _, rfl, rfl, ⟨_, _, rfl, rfl, ⟨_, _, rfl, ⟨A3, c3, rfl, l3, g3⟩, ⟨_, _, rfl, rfl, rfl⟩⟩⟩⟩⟩ := h
  exact ⟨A3, c3, rfl, l3, g3⟩
theorem k42_mkM (w : World) (base : Nat) (ok : Nat → Prop) (x : S42) {v3 : Value} (g3 : Kd.string.R 9 w base ok v3 x.f3) : k42.M w base ok x [.bool x.f0, .bool x.f1, .bool x.f2, v3, .int .i64 x.f4, .int .i64 x.f5] := ⟨[.bool x.f0], [.bool x.f1, .bool x.f2, v3, .int .i64 x.f4, .int .i64 x.f5], rfl, rfl, ⟨[.bool x.f1], [.bool x.f2, v3, .int .i64 x.f4, .int .i64 x.f5], rfl, rfl, ⟨[.bool x.f2], [v3, .int .i64 x.f4, .int .i64 x.f5], rfl, rfl, ⟨[v3], [.int .i64 x.f4, .int .i64 x.f5], rfl, ⟨v3, rfl, g3⟩, ⟨[.int .i64 x.f4], [.int .i64 x.f5], rfl, rfl, rfl⟩⟩⟩⟩⟩
def rd_T42 (xs : List S42) (i : Int) : S42 := xs.getD i.toNat z42
structure S44 where
  f0 : ByteArray
  f1 : S42
def z44 : S44 := ⟨(⟨#[]⟩ : ByteArray), z42⟩
def k44 : Kd S44 := Kd.iso (Kd.pair Kd.string k42) (fun x : S44 => (x.f0, x.f1))
theorem k44_open {w : World} {x : S44} {cs : List Value} (h : k44.K w x cs) : ∃ A4 c4, cs = [.string x.f0, .bool x.f1.f0, .bool x.f1.f1, .bool x.f1.f2, .slice A4 x.f1.f3.length c4, .int .i64 x.f1.f4, .int .i64 x.f1.f5] ∧ x.f1.f3.length ≤ c4 ∧ Kd.string.C w A4 x.f1.f3.length x.f1.f3 := by
  obtain ⟨_, _, rfl, rfl, s1⟩ := h
  obtain ⟨A4, c4, rfl, l4, g4⟩ := k42_open s1
  exact ⟨A4, c4, rfl, l4, g4⟩
theorem k44_openF {W : World} {ok : Nat → Prop} {x : S44} {cs : List Value} (h : Kd.FK k44 W ok x cs) : ∃ A4 c4, cs = [.string x.f0, .bool x.f1.f0, .bool x.f1.f1, .bool x.f1.f2, .slice A4 x.f1.f3.length c4, .int .i64 x.f1.f4, .int .i64 x.f1.f5] ∧ x.f1.f3.length ≤ c4 ∧ Kd.F Kd.string W ok A4 x.f1.f3.length x.f1.f3 := by
  obtain ⟨A4, c4, rfl, l4, _⟩ := k44_open (Kd.FK_now h)
  exact ⟨A4, c4, rfl, l4, (fun W' hW => by obtain ⟨A4_, c4_, he, l4_, g4_⟩ := k44_open (h W' hW); injection (Option.some.inj (show some (Value.slice A4 x.f1.f3.length c4) = some (Value.slice A4_ x.f1.f3.length c4_) from congrArg (fun l => l[4]?) he)) with ha_ _ _; rw [ha_]; exact g4_)⟩
def rd_T44 (xs : List S44) (i : Int) : S44 := xs.getD i.toNat z44
theorem at_T44 {w : World} {A : Option Addr} {n : Nat} {xs : List S44} (h : Kd.C k44 w A n xs) (i : Int) (h0 : 0 ≤ i) (h1 : i < n) : ∃ ad A4 c4, A = some ad ∧ w.cell? (ad.add (i.toNat * 7)) = some (.string (rd_T44 xs i).f0) ∧ w.cell? ⟨(ad.add (i.toNat * 7)).block, (ad.add (i.toNat * 7)).off + 1, none⟩ = some (.bool (rd_T44 xs i).f1.f0) ∧ w.cell? ⟨(ad.add (i.toNat * 7)).block, (ad.add (i.toNat * 7)).off + 2, none⟩ = some (.bool (rd_T44 xs i).f1.f1) ∧ w.cell? ⟨(ad.add (i.toNat * 7)).block, (ad.add (i.toNat * 7)).off + 3, none⟩ = some (.bool (rd_T44 xs i).f1.f2) ∧ w.cell? ⟨(ad.add (i.toNat * 7)).block, (ad.add (i.toNat * 7)).off + 4, none⟩ = some (.slice A4 (rd_T44 xs i).f1.f3.length c4) ∧ w.cell? ⟨(ad.add (i.toNat * 7)).block, (ad.add (i.toNat * 7)).off + 5, none⟩ = some (.int .i64 (rd_T44 xs i).f1.f4) ∧ w.cell? ⟨(ad.add (i.toNat * 7)).block, (ad.add (i.toNat * 7)).off + 6, none⟩ = some (.int .i64 (rd_T44 xs i).f1.f5) ∧ (rd_T44 xs i).f1.f3.length ≤ c4 ∧ Kd.string.C w A4 (rd_T44 xs i).f1.f3.length (rd_T44 xs i).f1.f3 := by
  obtain ⟨ad, c, e, _, hK, hc0⟩ := Kd.C_get h z44 i h0 h1
  have hc : ∀ j u, c[j]? = some u → w.cell? (ad.add (i.toNat * 7 + j)) = some u := hc0
  obtain ⟨A4, c4, rfl, l4, g4⟩ := k44_open hK
  exact ⟨ad, A4, c4, e, hc 0 _ rfl, by rw [← add_field _ _ 1 (by omega)]; exact hc 1 _ rfl, by rw [← add_field _ _ 2 (by omega)]; exact hc 2 _ rfl, by rw [← add_field _ _ 3 (by omega)]; exact hc 3 _ rfl, by rw [← add_field _ _ 4 (by omega)]; exact hc 4 _ rfl, by rw [← add_field _ _ 5 (by omega)]; exact hc 5 _ rfl, by rw [← add_field _ _ 6 (by omega)]; exact hc 6 _ rfl, l4, g4⟩
structure S34 where
  f0 : ByteArray
  f1 : ByteArray
def z34 : S34 := ⟨(⟨#[]⟩ : ByteArray), (⟨#[]⟩ : ByteArray)⟩
def k34 : Kd S34 := Kd.iso (Kd.pair Kd.string Kd.string) (fun x : S34 => (x.f0, x.f1))
theorem k34_open {w : World} {x : S34} {cs : List Value} (h : k34.K w x cs) : cs = [.string x.f0, .string x.f1] := by
  obtain ⟨_, _, rfl, rfl, rfl⟩ := h
  exact rfl
theorem k34_mkM (w : World) (base : Nat) (ok : Nat → Prop) (x : S34)  : k34.M w base ok x [.string x.f0, .string x.f1] := ⟨[.string x.f0], [.string x.f1], rfl, rfl, rfl⟩
def rd_T34 (xs : List S34) (i : Int) : S34 := xs.getD i.toNat z34
theorem at_T34 {w : World} {A : Option Addr} {n : Nat} {xs : List S34} (h : Kd.C k34 w A n xs) (i : Int) (h0 : 0 ≤ i) (h1 : i < n) : ∃ ad , A = some ad ∧ w.cell? (ad.add (i.toNat * 2)) = some (.string (rd_T34 xs i).f0) ∧ w.cell? ⟨(ad.add (i.toNat * 2)).block, (ad.add (i.toNat * 2)).off + 1, none⟩ = some (.string (rd_T34 xs i).f1) := by
  obtain ⟨ad, c, e, _, hK, hc0⟩ := Kd.C_get h z34 i h0 h1
  have hc : ∀ j u, c[j]? = some u → w.cell? (ad.add (i.toNat * 2 + j)) = some u := hc0
  obtain rfl := k34_open hK
  exact ⟨ad, e, hc 0 _ rfl, by rw [← add_field _ _ 1 (by omega)]; exact hc 1 _ rfl⟩
structure S45 where
  f0 : ByteArray
  f1 : S42
def z45 : S45 := ⟨(⟨#[]⟩ : ByteArray), z42⟩
end Go.Proofs.YtblfbdlhphhfnaaGreatDoor.PA
