import Derived.Test.YtblfbdlhphhfnaaGreatDoorN9
import Derived.Test.YtblfbdlhphhfnaaGreatDoorN10
import Derived.Maps.OwnOps
import Derived.Maps.RangeWalk
import Derived.Sort.MapsRangeIn
namespace Go.Proofs.YtblfbdlhphhfnaaGreatDoor.PA
open Go.RowKit Go.Maps Go.Sort Go.Proofs.YtblfbdlhphhfnaaGreatDoorW.PrintWords Go.Proofs.YtblfbdlhphhfnaaGreatDoorW.PrintLast
open Go.WideElems (Fit rd rg pl rd_val elemAt)
set_option linter.unusedVariables false
set_option linter.unusedSimpArgs false
theorem keyS : Keyed Tryz.prog 9 := string_keyed Tryz.underlying9
theorem key_of {s : ByteArray} (h : s.size ≤ maxLen) : keyOf Tryz.prog 9 (.string s) = some (.string s.data.toList) := by
  simp [keyOf, Tryz.underlying9, mapKey, h]
theorem key_inv {s : ByteArray} {kl : Lit} (h : keyOf Tryz.prog 9 (.string s) = some kl) : kl = .string s.data.toList ∧ s.size ≤ maxLen := by
  simp [keyOf, Tryz.underlying9, mapKey] at h
  exact ⟨h.2.symm, h.1⟩
structure BB where
  v : Bool
theorem zeroB (w : World) : (zeroValue 4).run Tryz.prog w = .ok (.bool false) w := by kernel_rfl
set_option maxRecDepth 100000 in
theorem plainElem_bool_inv {v : Value} {z : DataW Nat × List MemPlace} (h : plainElem Tryz.prog 4 v = some z) : ∃ x, v = .bool x ∧ z = (.lit (.bool x), []) := by
  unfold plainElem at h
  rw [Tryz.underlying4] at h
  cases v <;> simp at h
  exact ⟨_, rfl, h.symm⟩
theorem ownsMap_tight {H : Type} {P : Program} {k : TypeId} {R : Value → Option (DataW H × List MemPlace)} {w : World} {b n m : Nat} {D : DataW H} (h : w.ownsMap P k R b n D) (hs : Maps.size D = m) : w.ownsMap P k R b m D := by
  obtain ⟨es, clock, hb, F, _, hD⟩ := h
  refine ⟨es, clock, hb, F, ?_, hD⟩
  rw [← hs, hD]
  simp [Maps.size, length_sorted]
theorem length_filter_ne {S : List ByteArray} (h : S.Nodup) {s : ByteArray} (hs : s ∈ S) : (S.filter fun x => decide (x ≠ s)).length + 1 = S.length := by
  induction S with
  | nil => cases hs
  | cons y r ih =>
    have h1 := List.nodup_cons.1 h
    by_cases e : y = s
    · subst e
      have h2 : (r.filter fun x => decide (x ≠ y)) = r := List.filter_eq_self.2 fun x hx => by simp; rintro rfl; exact h1.1 hx
      simp only [List.filter_cons, ne_eq, not_true_eq_false, decide_false, Bool.false_eq_true, if_false, List.length_cons]
      simp only [ne_eq] at h2
      rw [h2]
    · have hs' : s ∈ r := by
        rcases List.mem_cons.1 hs with rfl | h'
        · exact absurd rfl e
        · exact h'
      have := ih h1.2 hs'
      simp only [List.filter_cons, ne_eq, e, not_false_eq_true, decide_true, if_true, List.length_cons]
      simp only [ne_eq] at this
      omega
/-- What a set's datum is. -/
structure SetIs (D : DataW Nat) (S : List ByteArray) : Prop where
  sorted : SortedS S
  mem : ∀ s : ByteArray, Maps.has D (.string s.data.toList) = memS S s
  tru : ∀ (s : ByteArray) z, Maps.has D (.string s.data.toList) = true → D.atKey (.string s.data.toList) z = .lit (.bool true)
  size : Maps.size D = S.length
  small : ∀ s ∈ S, s.size ≤ maxLen
def SetAt (w : World) (b : Nat) (S : List ByteArray) : Prop := ∃ D : DataW Nat, w.ownsMap Tryz.prog 9 (plainElem Tryz.prog 4) b S.length D ∧ SetIs D S
theorem SetIs.empty : SetIs (.map []) [] := ⟨List.Pairwise.nil, fun s => rfl, fun s z h => by simp [Maps.has] at h, rfl, fun s h => by cases h⟩
theorem SetIs.put {D : DataW Nat} {S : List ByteArray} (h : SetIs D S) (ht : Maps.Tidy D) (s : ByteArray) (hs : s.size ≤ maxLen) : SetIs (D.put (.string s.data.toList) (.lit (.bool true))) (putS S s) := by
  have hk : WideAt.IsKeyLit (.string s.data.toList) := trivial
  have hne : ∀ x : ByteArray, x ≠ s → (Lit.string x.data.toList) ≠ .string s.data.toList := fun x hx e => hx (ba_ext (Lit.string.inj e))
  refine ⟨sorted_putS h.sorted s, fun x => ?_, fun x z hx => ?_, ?_, fun x hx => ?_⟩
  · rw [memS_putS]
    by_cases e : x = s
    · subst e; rw [Maps.has_put_same ht.isMap hk]; simp
    · rw [Maps.has_put_other (hne x e), h.mem]; simp [e]
  · by_cases e : x = s
    · subst e; rw [Maps.atKey_put_same ht.isMap hk]
    · rw [Maps.has_put_other (hne x e)] at hx
      rw [Maps.atKey_put_other (hne x e), h.tru x z hx]
  · rw [Maps.size_put ht, h.mem, h.size]
    by_cases e : s ∈ S
    · rw [if_pos ((memS_iff S s).2 e), putS_of_mem h.sorted e]
    · rw [if_neg (fun hh => e ((memS_iff S s).1 hh)), length_putS_new S e]
  · rcases (mem_putS S s x).1 hx with hx | rfl
    · exact h.small x hx
    · exact hs
theorem sorted_filter {S : List ByteArray} (h : SortedS S) (p : ByteArray → Bool) : SortedS (S.filter p) := h.filter p
theorem SetIs.del {D : DataW Nat} {S : List ByteArray} (h : SetIs D S) (ht : Maps.Tidy D) (s : ByteArray) : SetIs (D.del (.string s.data.toList)) (S.filter fun x => decide (x ≠ s)) := by
  have hne : ∀ x : ByteArray, x ≠ s → (Lit.string x.data.toList) ≠ .string s.data.toList := fun x hx e => hx (ba_ext (Lit.string.inj e))
  refine ⟨sorted_filter h.sorted _, fun x => ?_, fun x z hx => ?_, ?_, fun x hx => h.small x (List.mem_filter.1 hx).1⟩
  · rw [Bool.eq_iff_iff, memS_iff, List.mem_filter]
    by_cases e : x = s
    · subst e; rw [Maps.has_del_same]; simp
    · rw [Maps.has_del_other (hne x e), h.mem, memS_iff]; simp [e]
  · by_cases e : x = s
    · subst e; rw [Maps.has_del_same] at hx; cases hx
    · rw [Maps.has_del_other (hne x e)] at hx
      rw [Maps.atKey_del_other (hne x e), h.tru x z hx]
  · have h1 := Maps.size_del (k := .string s.data.toList) ht
    rw [h.mem, h.size] at h1
    by_cases e : s ∈ S
    · rw [if_pos ((memS_iff S s).2 e)] at h1
      have h2 := length_filter_ne (sorted_nodup h.sorted) e
      omega
    · rw [if_neg (fun hh => e ((memS_iff S s).1 hh))] at h1
      have h2 : (S.filter fun x => decide (x ≠ s)) = S := List.filter_eq_self.2 fun x hx => by simp; rintro rfl; exact e hx
      rw [h2]; omega
theorem SetAt.made (w : World) : SetAt (w.alloc (.map #[] 0)) w.heap.size [] := ⟨_, World.ownsMap_made _ _ _ _, SetIs.empty⟩
theorem SetAt.lt {w : World} {b : Nat} {S : List ByteArray} (h : SetAt w b S) : b < w.heap.size := by obtain ⟨D, h, _⟩ := h; exact h.lt
theorem SetAt.kept {w w' : World} {b : Nat} {S : List ByteArray} {row : Option Nat} (h : SetAt w b S) (hg : w.grownBy w' row) (hne : some b ≠ row) : SetAt w' b S := by
  obtain ⟨D, h, i⟩ := h; exact ⟨D, h.kept hg hne, i⟩
theorem SetAt.below {w w' : World} {b : Nat} {S : List ByteArray} (h : SetAt w b S) (hb : Below w.heap.size w w') : SetAt w' b S := h.kept (grown_of_below hb none) (by simp)
theorem SetAt.sorted {w : World} {b : Nat} {S : List ByteArray} (h : SetAt w b S) : SortedS S := by obtain ⟨D, _, i⟩ := h; exact i.sorted
theorem look_val {D : DataW Nat} {S : List ByteArray} (hi : SetIs D S) {s : ByteArray} {x : Bool} (hx : D.atKey (.string s.data.toList) (.lit (.bool false)) = .lit (.bool x)) : x = memS S s := by
  cases hb : Maps.has D (.string s.data.toList) with
  | true =>
    have h2 := hi.tru s (.lit (.bool false)) hb
    rw [h2] at hx
    have h3 : true = x := by simpa using hx
    rw [← h3, ← hi.mem, hb]
  | false =>
    rw [Maps.atKey_of_not_has hb] at hx
    have h3 : false = x := by simpa using hx
    rw [← h3, ← hi.mem, hb]
section
variable {w : World} {ops : Array Oper} {rest : List Oper} {o : Oper} {a : Act} {Q : Exit → Act → World → Prop} {b : Nat} {S : List ByteArray}
/-- 'm[s] = true'. -/
theorem set_put (h : SetAt w b S) (hg : o.guard = none) (m x v : Operand) (hop : o.op = Op.mapUpdate 75 m x v) (s : ByteArray) (hm : a.eval m = .map (some b)) (hx : a.eval x = .string s) (hv : a.eval v = .bool true)
    (hs : s.size ≤ maxLen) (hn : S.length < maxLen) (hK : ∀ w', SetAt w' b (putS S s) → w.grownBy w' (some b) → wpList Tryz.prog ops Q rest (a.put o.dst undef) w') : wpList Tryz.prog ops Q (o :: rest) a w := by
  obtain ⟨D, ho, hi⟩ := h
  refine wpList_mapUpdate_own w hg m x v _ hop 9 4 keyS Tryz.underlying75 _ b _ D hm ho hn _ _ _ hx hv (key_of hs) _ [] (plainElem_bool Tryz.underlying4 true) ?_
  intro w' ho' hgr
  have hi' := hi.put (ho.tidy keyS) s hs
  exact hK w' ⟨_, ownsMap_tight ho' hi'.size, hi'⟩ hgr
/-- 'm[s]'. -/
theorem run_set_look (h : SetAt w b S) (s : ByteArray) (hs : s.size ≤ maxLen) : (Instr.lookup 75 (.map (some b)) (.string s) false).run Tryz.prog w = .ok (.bool (memS S s)) w := by
  obtain ⟨D, ho, hi⟩ := h
  obtain ⟨v, ps, hrun, hR⟩ := ho.lookup keyS Tryz.underlying75 (zeroB w) (plainElem_bool Tryz.underlying4 false) (key_of hs)
  obtain ⟨x, rfl, hx⟩ := plainElem_bool_inv hR
  have hx1 : D.atKey (.string s.data.toList) (.lit (.bool false)) = .lit (.bool x) := congrArg Prod.fst hx
  rw [look_val hi hx1] at hrun
  exact hrun
theorem run_set_len (h : SetAt w b S) (ty : TypeId) : (Builtin.len_ #[75] ty #[.map (some b)]).run Tryz.prog w = .ok (.int .i64 S.length) w := by
  obtain ⟨D, ho, hi⟩ := h
  rw [ho.len Tryz.underlying75 ty, hi.size]
end
/-- What is sorted out of a set's keys is the set. -/
theorem SetAt.keys {w : World} {b : Nat} {S : List ByteArray} {D : DataW Nat} (ho : w.ownsMap Tryz.prog 9 (plainElem Tryz.prog 4) b S.length D) (hi : SetIs D S) {ss : List (List UInt8)} (hp : ss.Perm (strKeys D)) :
    (ss.mergeSort (fun x y => decide (x ≤ y))).map encStr = encs .string S ∧ ss.length = S.length := by
  have hT : (S.map fun s => s.data.toList).Perm (strKeys D) := by
    obtain ⟨es, rfl, hk⟩ := ho.keysOf
    obtain ⟨es', he, hpw⟩ := ho.tidy keyS
    injection he with he; subst he
    refine perm_strKeys hpw (fun p hp => ?_) ?_ fun x => ?_
    · obtain ⟨v, hv⟩ := hk p hp
      obtain ⟨x, _, hx, _⟩ := Maps.keyOf_str Tryz.underlying9 hv
      exact ⟨x, hx⟩
    · exact List.pairwise_map.2 ((sorted_nodup hi.sorted).imp fun {x y} hne e => hne (ba_ext e))
    · have h1 := hi.mem ⟨x.toArray⟩
      simp only at h1
      rw [List.mem_map]
      constructor
      · rintro ⟨s, hs, rfl⟩; rw [hi.mem s, memS_iff]; exact hs
      · intro hx; rw [h1, memS_iff] at hx; exact ⟨_, hx, rfl⟩
  have hsort : (S.map fun s => s.data.toList).Pairwise (fun x y => leB x y = true) := by
    refine List.pairwise_map.2 (hi.sorted.imp fun {x y} h => ?_)
    rw [ltS_iff] at h
    simp only [leB, decide_eq_true_eq]
    exact List.le_of_lt h
  have e1 : ss.mergeSort leB = S.map fun s => s.data.toList := by
    rw [mergeSort_of_perm (hp.trans hT.symm)]
    exact List.mergeSort_of_pairwise hsort
  refine ⟨?_, by have := (hp.trans hT.symm).length_eq; simpa using this⟩
  show (ss.mergeSort leB).map encStr = _
  rw [e1, encs, List.map_map]
  apply List.map_congr_left
  intro s _
  simp [encStr]
end Go.Proofs.YtblfbdlhphhfnaaGreatDoor.PA
namespace Go.Proofs.YtblfbdlhphhfnaaGreatDoor.PA
open Go.RowKit Go.Maps Go.Sort Go.Proofs.YtblfbdlhphhfnaaGreatDoorW.PrintWords Go.Proofs.YtblfbdlhphhfnaaGreatDoorW.PrintLast
set_option linter.unusedVariables false
set_option linter.unusedSimpArgs false
theorem flat_take (ls : List (List ByteArray)) (k : Nat) (hk : k < ls.length) : (ls.take (k + 1)).flatten = (ls.take k).flatten ++ ls.getD k [] := by
  rw [List.take_succ_eq_append_getElem hk, List.flatten_append, List.getD_eq_getElem?_getD, List.getElem?_eq_getElem hk]
  simp
theorem take_snocS (l : List ByteArray) (k : Nat) (hk : k < l.length) : l.take (k + 1) = l.take k ++ [l.getD k ByteArray.empty] := by
  rw [List.take_succ_eq_append_getElem hk, List.getD_eq_getElem?_getD, List.getElem?_eq_getElem hk]
  simp
/-- A slice literal of one slice, of two, reads as one. -/
theorem one_row {W : World} {g : Nat} {t : TypeId} {A : Option Addr} {c : Nat} {l : List ByteArray} (h : W.heap[g]? = some (.cells #[.slice A l.length c] t (0, 0))) (hr : Kd.C Kd.string W A l.length l) (hc : l.length ≤ c) :
    Kd.C (Kd.slice 9 Kd.string) W (some ⟨g, 0, none⟩) 1 [l] := by
  refine ⟨rfl, by decide, fun _ => ⟨_, rfl, fun j p hj => ?_⟩⟩
  match j, hj with
  | 0, hj =>
    injection hj with hj; subst hj
    refine ⟨[.slice A l.length c], rfl, ⟨A, c, rfl, hc, hr⟩, fun i u hu => ?_⟩
    match i, hu with
    | 0, hu => injection hu with hu; subst hu; exact (blk_cell h 0).trans rfl
theorem two_rows {W : World} {g : Nat} {t : TypeId} {A A2 : Option Addr} {c c2 : Nat} {l l2 : List ByteArray} (h : W.heap[g]? = some (.cells #[.slice A l.length c, .slice A2 l2.length c2] t (0, 0))) (hr : Kd.C Kd.string W A l.length l) (hc : l.length ≤ c) (hr2 : Kd.C Kd.string W A2 l2.length l2) (hc2 : l2.length ≤ c2) :
    Kd.C (Kd.slice 9 Kd.string) W (some ⟨g, 0, none⟩) 2 [l, l2] := by
  refine ⟨rfl, by decide, fun _ => ⟨_, rfl, fun j p hj => ?_⟩⟩
  match j, hj with
  | 0, hj =>
    injection hj with hj; subst hj
    refine ⟨[.slice A l.length c], rfl, ⟨A, c, rfl, hc, hr⟩, fun i u hu => ?_⟩
    match i, hu with
    | 0, hu => injection hu with hu; subst hu; exact (blk_cell h 0).trans rfl
  | 1, hj =>
    injection hj with hj; subst hj
    refine ⟨[.slice A2 l2.length c2], rfl, ⟨A2, c2, rfl, hc2, hr2⟩, fun i u hu => ?_⟩
    match i, hu with
    | 0, hu => injection hu with hu; subst hu; exact (blk_cell h 1).trans rfl
set_option maxHeartbeats 1600000 in
set_option maxRecDepth 100000 in
theorem valset_group.calls (A0 : Option Addr) (c0 : Nat) (ls : List (List ByteArray)) (w : World) (hr : Kd.C (Kd.slice 9 Kd.string) w A0 ls.length ls) (hc : ls.length ≤ c0) (hs : ∀ l ∈ ls, ∀ s ∈ l, s.size ≤ maxLen) (hn : ls.flatten.length < maxLen) :
    Calls Tryz.prog 42 #[.slice A0 ls.length c0] w fun e w' => ∃ b, e = .returned (.map (some b)) ∧ w.heap.size ≤ b ∧ SetAt w' b (groupS ls.flatten) ∧ Below w.heap.size w w' := by
  have hnl : ls.length ≤ 9223372036854775807 := hr.2.1
  have hmm := @run_makeMap Tryz.prog
  go_enter Tryz.func42, Tryz.ntmps42
  go_wp2
  go_loopw [11] (fun i wr => ∃ k : Nat, k ≤ ls.length ∧ i = .int .i64 k ∧ SetAt wr w.heap.size (groupS (ls.take k).flatten) ∧ Below w.heap.size w wr) (fun i _ => ls.length - (intOf i).toNat)
  case atStart => exact ⟨0, Nat.zero_le _, rfl, SetAt.made w, (Below.refl _ _).alloc (Nat.le_refl _) _⟩
  case round =>
    obtain ⟨k, hk, rfl, hset, hb⟩ := hrel
    by_cases hlt : k < ls.length
    · obtain ⟨ad, cs, rfl, _, ⟨A, c, rfl, hlc, hC⟩, hcell⟩ := Kd.C_get hr [] k (by omega) (by omega)
      have hx : wr.cell? (ad.add k) = some (.slice A (ls.getD k []).length c) := pw_cell_below hb (by simpa [Kd.slice] using hcell 0 _ rfl)
      clear hcell
      obtain ⟨l, el⟩ : ∃ l, l = ls.getD k [] := ⟨_, rfl⟩
      have hmem : l ∈ ls := by rw [el, List.getD_eq_getElem?_getD, List.getElem?_eq_getElem hlt]; exact List.getElem_mem _
      have hsl := hs l hmem
      have hfl := flat_take ls k hlt
      simp only [Int.toNat_natCast] at hlc hC
      rw [← el] at hx hlc hC hfl
      have hlen2 : (ls.take k).flatten.length + l.length ≤ ls.flatten.length := by
        have h1 : ls.flatten = (ls.take (k + 1)).flatten ++ (ls.drop (k + 1)).flatten := by rw [← List.flatten_append, List.take_append_drop]
        rw [h1, hfl]; simp only [List.length_append]; omega
      have HF := Lib.hid hfl
      clear hfl el hmem hs
      have hl63 : l.length ≤ 9223372036854775807 := hC.2.1
      go_wp2
      obtain ⟨wo, ewo⟩ : ∃ wo : World, wo = wr := ⟨_, rfl⟩
      go_loopw [7, 17] (fun _ i wr2 => ∃ j : Nat, j ≤ l.length ∧ i = .int .i64 j ∧ SetAt wr2 w.heap.size (groupS ((ls.take k).flatten ++ l.take j)) ∧ Below w.heap.size w wr2) (fun _ i _ => l.length - (intOf i).toNat)
      case atStart => exact ⟨0, Nat.zero_le _, rfl, by simpa using hset, hb⟩
      case round =>
        obtain ⟨j, hj, rfl, hset2, hb2⟩ := hrel
        by_cases hjl : j < l.length
        · obtain ⟨ad2, c2, rfl, _, hK, hcell2⟩ := Kd.C_get (Kd.C_below hC hb2) ByteArray.empty j (by omega) (by omega)
          have hK' : c2 = [.string (l.getD j ByteArray.empty)] := by simpa [Kd.string, Kd.scalar] using hK
          subst hK'
          have hx2 : wr.cell? (ad2.add j) = some (.string (l.getD j ByteArray.empty)) := by simpa [Kd.string, Kd.scalar] using hcell2 0 _ rfl
          clear hcell2 hK
          obtain ⟨s, es⟩ : ∃ s, s = l.getD j ByteArray.empty := ⟨_, rfl⟩
          have hss : s.size ≤ maxLen := hsl s (by rw [es, List.getD_eq_getElem?_getD, List.getElem?_eq_getElem hjl]; exact List.getElem_mem _)
          have hts := take_snocS l j hjl
          rw [← es] at hx2 hts
          have HT := Lib.hid hts
          clear hts es
          have hlen3 : (groupS ((ls.take k).flatten ++ l.take j)).length < maxLen := by
            have h1 := length_groupS ((ls.take k).flatten ++ l.take j)
            simp only [List.length_append, List.length_take] at h1
            omega
          go_wp2_with (first | (at_mapUpdate; refine set_put hset2 rfl _ _ _ rfl s rfl rfl rfl hss hlen3 ?_; intro w3 hset3 hg3))
          go_roundw
          case rel => exact ⟨j + 1, by omega, by go_num, by rw [HT.out, ← List.append_assoc, groupS_snoc]; exact hset3, hb2.grown hg3 hb2.size (fun q hq => by cases hq; exact Nat.le_refl _)⟩
          case measure => show l.length - ((j : Int) + 1).toNat < l.length - (j : Int).toNat; omega
        · have hje : j = l.length := by omega
          subst hje
          go_wp2
          go_roundw
          case rel => exact ⟨k + 1, by omega, by go_num, by rw [HF.out]; simpa using hset2, hb2⟩
          case measure => show ls.length - ((k : Int) + 1).toNat < ls.length - (k : Int).toNat; omega
    · have hke : k = ls.length := by omega
      subst hke
      go_wp2
      go_ret
      exact ⟨_, rfl, Nat.le_refl _, by simpa using hset, hb⟩
theorem group_one {g : Nat} {t : TypeId} {A : Option Addr} {c : Nat} {l : List ByteArray} (W : World) (h : W.heap[g]? = some (.cells #[.slice A l.length c] t (0, 0))) (hr : Kd.C Kd.string W A l.length l) (hc : l.length ≤ c) (hs : ∀ s ∈ l, s.size ≤ 140737488351232) (hn : l.length ≤ 1000000) :
    Calls Tryz.prog 42 #[.slice (some ⟨g, 0, none⟩) 1 1] W fun e w' => ∃ b, e = .returned (.map (some b)) ∧ W.heap.size ≤ b ∧ SetAt w' b (groupS l) ∧ Below W.heap.size W w' := by
  have h1 := valset_group.calls (some ⟨g, 0, none⟩) 1 [l] W (one_row h hr hc) (by simp) (fun l' hl s hs2 => by simp at hl; subst hl; have := hs s hs2; unfold maxLen; omega) (by simp; unfold maxLen; omega)
  simpa using h1
theorem group_two {g : Nat} {t : TypeId} {A A2 : Option Addr} {c c2 : Nat} {l l2 : List ByteArray} (W : World) (h : W.heap[g]? = some (.cells #[.slice A l.length c, .slice A2 l2.length c2] t (0, 0))) (hr : Kd.C Kd.string W A l.length l) (hc : l.length ≤ c) (hr2 : Kd.C Kd.string W A2 l2.length l2) (hc2 : l2.length ≤ c2)
    (hs : ∀ s ∈ l, s.size ≤ 140737488351232) (hs2 : ∀ s ∈ l2, s.size ≤ 140737488351232) (hn : l.length ≤ 1000000) (hn2 : l2.length ≤ 1000000) :
    Calls Tryz.prog 42 #[.slice (some ⟨g, 0, none⟩) 2 2] W fun e w' => ∃ b, e = .returned (.map (some b)) ∧ W.heap.size ≤ b ∧ SetAt w' b (groupS (l ++ l2)) ∧ Below W.heap.size W w' := by
  have h1 := valset_group.calls (some ⟨g, 0, none⟩) 2 [l, l2] W (two_rows h hr hc hr2 hc2) (by simp) (fun l' hl s hs3 => by
    simp at hl; rcases hl with rfl | rfl
    · have := hs s hs3; unfold maxLen; omega
    · have := hs2 s hs3; unfold maxLen; omega) (by simp; unfold maxLen; omega)
  simpa using h1
theorem group_none (W : World) : Calls Tryz.prog 42 #[.slice none 0 0] W fun e w' => ∃ b, e = .returned (.map (some b)) ∧ W.heap.size ≤ b ∧ SetAt w' b [] ∧ Below W.heap.size W w' := by
  have h1 := valset_group.calls none 0 [] W ⟨rfl, by decide, fun h => absurd h (by decide)⟩ (by simp) (by simp) (by simp; unfold maxLen; omega)
  simpa [groupS] using h1
end Go.Proofs.YtblfbdlhphhfnaaGreatDoor.PA
namespace Go.Proofs.YtblfbdlhphhfnaaGreatDoor.PA
open Go.RowKit Go.Proofs.YtblfbdlhphhfnaaGreatDoorW.PrintWords Go.Proofs.YtblfbdlhphhfnaaGreatDoorW.PrintLast
set_option linter.unusedVariables false
def numOf (l : List UInt8) : Option Int :=
  match Lib.parseIntB 64 l with
  | .ok v => if v < -2147483648 ∨ 2147483648 < v ∨ Lib.itoa v ≠ l then none else some v
  | _ => none
def numR (l : List UInt8) : Int × Bool := match numOf l with | some v => (v, true) | none => (0, false)
def valset_Number.f (a0 : ByteArray) : Option (Int × Bool) := if a0.size ≤ 140737488351232 then some (numR a0.data.toList) else none
set_option maxHeartbeats 800000 in
set_option maxRecDepth 100000 in
theorem bad_case {r1 : Int} {r2 : Bool} (a0 : ByteArray) (hs : a0.size ≤ 140737488351232) (h : ∀ v, Lib.parseIntB 64 a0.data.toList ≠ .ok v) (hr : (r1, r2) = ((0 : Int), false)) (w : World) (hG : GL w) :
    Calls Tryz.prog 49 #[.string a0] w fun e w' => e = .returned (.tuple #[.int .i64 r1, .bool r2]) ∧ Below w.heap.size w w' := by
  obtain ⟨rfl, rfl⟩ := Prod.mk.inj hr
  have HP := Lib.hid h; clear h hr
  go_enter Tryz.func49, Tryz.ntmps49
  go_wp2_with (first | (go_at_call 73; refine (std_parse_bad a0 hs HP.out _ hG).mono ?_; rintro e w' ⟨v, N, rfl, hb⟩))
  go_ret2
  exact ⟨rfl, hb⟩
set_option maxHeartbeats 800000 in
set_option maxRecDepth 100000 in
theorem valset_Number.calls (a0 : ByteArray) (r1 : Int) (r2 : Bool) (w : World) (hG : GL w) (h : valset_Number.f a0 = some (r1, r2)) :
    Calls Tryz.prog 49 #[.string a0] w fun e w' => e = .returned (.tuple #[.int .i64 r1, .bool r2]) ∧ Below w.heap.size w w' := by
  unfold valset_Number.f at h
  by_cases hs : a0.size ≤ 140737488351232
  · rw [if_pos hs] at h
    have h2 := Option.some.inj h
    clear h
    cases hp : Lib.parseIntB 64 a0.data.toList with
    | ok v =>
      have hN : numR a0.data.toList = if v < -2147483648 ∨ 2147483648 < v ∨ Lib.itoa v ≠ a0.data.toList then (0, false) else (v, true) := by
        unfold numR numOf; rw [hp]; by_cases c : v < -2147483648 ∨ 2147483648 < v ∨ Lib.itoa v ≠ a0.data.toList <;> simp [c]
      rw [h2] at hN
      have HP := Lib.hid hp; clear hp
      have HN := Lib.hid hN; clear hN h2
      by_cases c1 : v < -2147483648
      · have e1 := HN.out
        rw [if_pos (.inl c1)] at e1
        obtain ⟨rfl, rfl⟩ := Prod.mk.inj e1
        clear e1
        go_enter Tryz.func49, Tryz.ntmps49
        go_wp2_with (first | (go_at_call 73; refine (std_parse_ok a0 hs v HP.out _).mono ?_; rintro e w' ⟨rfl, hb⟩))
        go_ret2
        exact ⟨rfl, hb⟩
      · by_cases c2 : 2147483648 < v
        · have e1 := HN.out
          rw [if_pos (.inr (.inl c2))] at e1
          obtain ⟨rfl, rfl⟩ := Prod.mk.inj e1
          clear e1
          go_enter Tryz.func49, Tryz.ntmps49
          go_wp2_with (first | (go_at_call 73; refine (std_parse_ok a0 hs v HP.out _).mono ?_; rintro e w' ⟨rfl, hb⟩))
          go_ret2
          exact ⟨rfl, hb⟩
        · have d1 : -2147483648 ≤ v := by omega
          have d2 : v ≤ 2147483648 := by omega
          by_cases c3 : Lib.itoa v = a0.data.toList
          · have e1 := HN.out
            rw [if_neg (by rintro (h | h | h); exact c1 h; exact c2 h; exact h c3)] at e1
            obtain ⟨rfl, rfl⟩ := Prod.mk.inj e1
            clear e1
            have c4 : (Lib.itoa r1 == a0.toList) = true := by rw [ByteArray.toList_eq]; exact beq_iff_eq.2 c3
            clear c3
            go_enter Tryz.func49, Tryz.ntmps49
            go_wp2_with (first | (go_at_call 73; refine (std_parse_ok a0 hs _ HP.out _).mono ?_; rintro e w' ⟨rfl, hb⟩) | (go_at_call 61; refine (std_format _ (by omega) (by omega) _ (GL.of_below hG hb)).mono ?_; rintro e w2 ⟨rfl, hb2⟩))
            go_ret2
            exact ⟨rfl, below_then hb hb.size hb2⟩
          · have e1 := HN.out
            rw [if_pos (.inr (.inr c3))] at e1
            obtain ⟨rfl, rfl⟩ := Prod.mk.inj e1
            clear e1
            have c4 : (Lib.itoa v == a0.toList) = false := by rw [ByteArray.toList_eq]; exact beq_eq_false_iff_ne.2 c3
            clear c3
            go_enter Tryz.func49, Tryz.ntmps49
            go_wp2_with (first | (go_at_call 73; refine (std_parse_ok a0 hs _ HP.out _).mono ?_; rintro e w' ⟨rfl, hb⟩) | (go_at_call 61; refine (std_format _ (by omega) (by omega) _ (GL.of_below hG hb)).mono ?_; rintro e w2 ⟨rfl, hb2⟩))
            go_ret2
            exact ⟨rfl, below_then hb hb.size hb2⟩
    | «syntax» => exact bad_case a0 hs (by rw [hp]; intro v h; cases h) (by rw [← h2]; unfold numR numOf; rw [hp]) w hG
    | range => exact bad_case a0 hs (by rw [hp]; intro v h; cases h) (by rw [← h2]; unfold numR numOf; rw [hp]) w hG
  · rw [if_neg hs] at h; cases h
end Go.Proofs.YtblfbdlhphhfnaaGreatDoor.PA
