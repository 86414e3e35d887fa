import Derived.Test.YtblfbdlhphhfnaaGreatDoorN18
import Derived.Test.YtblfbdlhphhfnaaGreatDoorN23
import Derived.Test.YtblfbdlhphhfnaaGreatDoorN26
import Derived.Test.YtblfbdlhphhfnaaGreatDoorN27
import Derived.Sort.OwnSorted
namespace Go.Proofs.YtblfbdlhphhfnaaGreatDoor.PA
open Go.RowKit Go.Maps Go.Sort Go.Shelf Go.Lib Go.Proofs.YtblfbdlhphhfnaaGreatDoorW.PrintWords Go.Proofs.YtblfbdlhphhfnaaGreatDoorW.PrintLast
set_option linter.unusedVariables false
set_option linter.unusedSimpArgs false
/-- An element with its cells. -/
abbrev EK := S44 × Row6
instance : Inhabited EK := ⟨(z44, zero6)⟩
def encE (x : EK) : List Value := .string x.1.f0 :: cells6 x.2
theorem encE_len (x : EK) : (encE x).length = 7 := rfl
theorem encE_one (x : EK) : ∀ v ∈ encE x, v.oneCell' = true := by
  intro v hv
  simp only [encE, cells6, List.mem_cons, List.not_mem_nil, or_false] at hv
  rcases hv with rfl | rfl | rfl | rfl | rfl | rfl | rfl <;> rfl
theorem cmp_lt (a b : List UInt8) : Lib.compareBytes a b < 0 ↔ a < b := by
  induction a generalizing b with
  | nil =>
    cases b with
    | nil => simp [Lib.compareBytes]
    | cons y b => simp [Lib.compareBytes]
  | cons x a ih =>
    cases b with
    | nil => simp [Lib.compareBytes]
    | cons y b =>
      rw [Lib.compareBytes, List.cons_lt_cons_iff]
      by_cases h1 : x < y
      · rw [if_pos h1]; simp [h1]
      · rw [if_neg h1]
        by_cases h2 : y < x
        · rw [if_pos h2]
          have : x ≠ y := fun e => by subst e; exact absurd h2 h1
          simp [h1, this]
        · rw [if_neg h2, ih]
          have : x = y := UInt8.le_antisymm (UInt8.not_lt.1 h2) (UInt8.not_lt.1 h1)
          simp [this]
def cfE (x y : EK) : Int := Lib.compareBytes x.1.f0.data.toList y.1.f0.data.toList
theorem ltE_is (x y : EK) : ltOf cfE x y = ltS x.1.f0 y.1.f0 := by
  unfold ltOf cfE
  rw [Bool.eq_iff_iff, decide_eq_true_iff, cmp_lt, ltS_iff]
theorem swoE : Go.Sort.SWO (ltOf cfE) := by
  refine ⟨fun x => by rw [ltE_is, ltS_irrefl], fun x y z h1 h2 => ?_, fun x y z h1 h2 => ?_⟩
  · rw [ltE_is] at *; exact ltS_trans h1 h2
  · rw [ltE_is] at *
    cases h : ltS x.1.f0 z.1.f0 with
    | false => rfl
    | true =>
      exfalso
      by_cases e1 : x.1.f0 = y.1.f0
      · rw [e1] at h; rw [h] at h2; cases h2
      · have h3 := ltS_total h1 e1
        have := ltS_trans h3 h
        rw [this] at h2; cases h2
set_option maxHeartbeats 1000000 in
theorem sets1 (x y : EK) (W : World) : Calls Tryz.prog 24 #[.agg (encE x).toArray, .agg (encE y).toArray] W fun e w' => e = .returned (.int .i64 (cfE x y)) ∧ ∃ q os', w' = Go.Sort.grow (W.drewN q) os' := by
  have hcon := fun W' => Any.strings_Compare Tryz.lays106 x.1.f0 y.1.f0 W'
  change ∀ W', Calls Tryz.prog 25 _ _ _ at hcon
  unfold cfE
  generalize Lib.compareBytes x.1.f0.data.toList y.1.f0.data.toList = r at hcon ⊢
  show Calls Tryz.prog 24 #[.agg #[.string x.1.f0, .bool x.2.m, .bool x.2.n, .bool x.2.u, .slice x.2.A x.2.len x.2.cap, .int .i64 x.2.lo, .int .i64 x.2.hi], .agg #[.string y.1.f0, .bool y.2.m, .bool y.2.n, .bool y.2.u, .slice y.2.A y.2.len y.2.cap, .int .i64 y.2.lo, .int .i64 y.2.hi]] W _
  go_enter Tryz.func24, Tryz.ntmps24
  go_wp2_with (go_at_call 25; refine (hcon _).mono ?_; rintro e w' ⟨rfl, rfl⟩)
  go_ret
  exact ⟨rfl, 0, _, by rw [alloc_eq_grow, alloc_eq_grow, grow_grow]; rfl⟩
theorem cmpLaysE (blk off size : Nat) (w : World) : CmpLays Tryz.prog 24 #[] encE 7 cfE blk off size w :=
  fun _ _ _ _ x y => sets1 x y _
theorem flat_get : ∀ (L : List EK) (t : Nat), t < L.length * 7 → (L.flatMap encE)[t]? = (encE (L[t / 7]?.getD default))[t % 7]?
  | [], t, h => by simp at h
  | x :: r, t, h => by
    rw [List.flatMap_cons]
    by_cases ht : t < 7
    · rw [List.getElem?_append_left (by rw [encE_len]; exact ht), show t / 7 = 0 by omega, show t % 7 = t by omega]; rfl
    · rw [List.getElem?_append_right (by rw [encE_len]; omega), encE_len, flat_get r (t - 7) (by simp at h; omega), show t / 7 = (t - 7) / 7 + 1 by omega, show (t - 7) % 7 = t % 7 by omega]; rfl
theorem flat_len (L : List EK) : (L.flatMap encE).length = L.length * 7 := by
  induction L with
  | nil => rfl
  | cons x r ih => rw [List.flatMap_cons, List.length_append, ih, encE_len, List.length_cons]; omega
theorem flatK_list (L : List EK) : (flatK encE 7 L.toArray).toList = L.flatMap encE := by
  apply List.ext_getElem?
  intro t
  by_cases ht : t < L.length * 7
  · rw [flat_get L t ht, Array.getElem?_toList]
    have h1 := get_flatK encE 7 L.toArray t (by simpa using ht)
    have h2 : t < (flatK encE 7 L.toArray).size := by simpa using ht
    rw [getElem!_pos _ t h2] at h1
    rw [Array.getElem?_eq_getElem h2, h1]
    have hd : t / 7 < L.length := by omega
    have e1 : (L.toArray)[t / 7]! = L[t / 7]?.getD default := by
      rw [getElem!_pos _ (t / 7) (by simpa using hd), List.getElem?_eq_getElem hd]; simp
    rw [e1]
    generalize L[t / 7]?.getD default = x
    have h3 : t % 7 < (encE x).length := by rw [encE_len]; omega
    rw [List.getElem?_eq_getElem h3, getElem!_pos _ (t % 7) h3]
  · rw [List.getElem?_eq_none (by rw [Array.length_toList, size_flatK]; simpa using ht), List.getElem?_eq_none (by rw [flat_len]; omega)]
theorem heap_sortedE {w : World} {g n : Nat} {os : Array Obj} {cur : Array Value} {e : TypeId} {fr : Nat × Nat} (d : Array Value) (hb : w.heap[g]? = some (.cells cur e fr)) :
    (Go.Sort.grow (putRow id (Go.Sort.ahead w n) g 0 d) os).heap[g]? = some (.cells (putCells id 0 d cur) e fr) := by
  have hg : g < w.heap.size := (Array.getElem?_eq_some_iff.1 hb).1
  rw [heap_grow_old _ _ (by simpa using hg)]
  simp [putRow, mapBlock, Go.Sort.ahead, Array.getElem?_modify, hb, onCells]
theorem grownBy_sortedE {w : World} {g n : Nat} {os : Array Obj} (d : Array Value) : w.grownBy (Go.Sort.grow (putRow id (Go.Sort.ahead w n) g 0 d) os) (some g) := by
  refine ⟨rfl, rfl, rfl, by simp, fun k hk hne => ?_⟩
  rw [heap_grow_old _ _ (by simpa using hk)]
  have : g ≠ k := fun e => hne (by rw [e])
  simp [putRow, mapBlock, Go.Sort.ahead, Array.getElem?_modify, this]
theorem take_putCellsE (cur : Array Value) (ts : List Value) (h : ts.length ≤ cur.size) : (putCells id 0 ts.toArray cur).toList.take ts.length = ts := by
  apply List.ext_getElem?
  intro j
  by_cases hj : j < ts.length
  · rw [List.getElem?_take_of_lt hj, Array.getElem?_toList]
    simp [putCells, hj, show j < cur.size by omega]
  · rw [List.getElem?_take_eq_none (by omega), List.getElem?_eq_none (by omega)]
/-- The call: the same slice owns a permutation, sorted by the keys. -/
theorem sortE (base : Nat) (v : Value) (L : List EK) (w : World) (h : w.ownsRow base 44 7 v L.length (L.flatMap encE)) (hn : L.length < 4611686018427387904) :
    Calls Tryz.prog 23 #[v, .func (.func 24) #[] #[]] w fun e w' => e = .returned (.tuple #[]) ∧ ∃ L' : List EK, L'.Perm L ∧ L'.Pairwise (fun x y => ltS y.1.f0 x.1.f0 = false) ∧ w'.ownsRow base 44 7 v L'.length (L'.flatMap encE) ∧ w.grownBy w' v.ownBlock := by
  rcases h.2 with ⟨rfl, h0⟩ | ⟨g, cap, cur, rfl, hbase, hb, h1, h2, h3, h4⟩
  · have hL : L = [] := List.length_eq_zero_iff.1 h0
    subst hL
    refine (AnyF.slices_SortFunc_none Tryz.sortKLay none 0 _ w).mono ?_
    rintro e w' ⟨rfl, rfl⟩
    exact ⟨rfl, [], List.Perm.refl _, List.Pairwise.nil, h, ⟨rfl, rfl, rfl, Nat.le_refl _, fun _ _ _ => rfl⟩⟩
  · have eg : ∀ args w, (callFunc 24 args).run Tryz.prog w = .ok (.enter 24 args) w := enters_of Tryz.func24 (by kernel_rfl) rfl
    have hH : HoldsK encE 7 w g 0 L.toArray := by
      intro j hj
      have hj' : j < L.length * 7 := by simpa using hj
      refine ⟨?_, by simp [World.frozen?, hb]⟩
      have e1 : (cur.toList.take (L.length * 7))[j]? = (L.flatMap encE)[j]? := by rw [h4]
      rw [List.getElem?_take_of_lt hj', ← flatK_list] at e1
      simp only [World.cell?, hb, Nat.zero_add]
      simp only [Option.isSome_none, Bool.false_eq_true, if_false]
      rw [Array.getElem?_toList, Array.getElem?_toList] at e1
      rw [e1, Array.getElem?_eq_getElem hj, getElem!_pos _ j hj]
      rfl
    have hblk : g < w.heap.size := (Array.getElem?_eq_some_iff.1 hb).1
    have hcon := AnyQ.slices_SortFunc Tryz.sortKLay 7 (fun _ => by kernel_rfl) (fun _ => by kernel_rfl) encE encE_len encE_one cfE swoE 24 #[] g 0 cap L.toArray w eg (cmpLaysE g 0 _ w) hH hblk (by simpa using hn)
    rw [show L.toArray.size = L.length by simp] at hcon
    change Calls Tryz.prog 23 _ _ _ at hcon
    refine hcon.mono ?_
    rintro e w' ⟨rfl, d', n, os, hP, hS, rfl⟩
    refine ⟨rfl, d'.toList, ?_, ?_, ?_, ?_⟩
    · have hp := hP.2.2
      have hs : d'.size = L.toArray.size := hP.1
      have hs2 : d'.size = L.length := by simpa using hs
      rw [Array.extract_eq_self_of_le (by omega), Array.extract_eq_self_of_le (by simp)] at hp
      simpa using hp
    · rw [List.pairwise_iff_getElem]
      intro i j hi hj hij
      have hs : d'.size = L.toArray.size := hP.1
      have h5 := hS i j (Nat.zero_le _) hij (by have hs2 : d'.size = L.length := by (simpa using hs)
                                                rw [← hs2]; simpa using hj)
      rw [ltE_is, getElem!_pos _ j (by simpa using hj), getElem!_pos _ i (by simpa using hi)] at h5
      simpa using h5
    · have hs : d'.size = L.length := by simpa using hP.1
      have hfl : (flatK encE 7 d').toList = d'.toList.flatMap encE := by have := flatK_list d'.toList; simpa using this
      have hsz : (flatK encE 7 d').size = L.length * 7 := by rw [size_flatK, hs]
      have hts : (d'.toList.flatMap encE).length = L.length * 7 := by rw [flat_len]; simp [hs]
      have hle : d'.toList.length = L.length := by simpa using hs
      rw [hle]
      refine ⟨hts, .inr ⟨g, cap, putCells id 0 (flatK encE 7 d') cur, rfl, hbase, ?_, h1, h2, ?_, ?_⟩⟩
      · exact heap_sortedE (flatK encE 7 d') hb
      · simp [putCells, h3]
      · have := take_putCellsE cur (flatK encE 7 d').toList (by rw [Array.length_toList, hsz, h3]; omega)
        rw [Array.toArray_toList, Array.length_toList, hsz, hfl] at this
        exact this
    · exact grownBy_sortedE _
end Go.Proofs.YtblfbdlhphhfnaaGreatDoor.PA
namespace Go.Proofs.YtblfbdlhphhfnaaGreatDoor.PA
open Go.RowKit Go.Maps Go.Sort Go.Shelf Go.Proofs.YtblfbdlhphhfnaaGreatDoorW.PrintWords Go.Proofs.YtblfbdlhphhfnaaGreatDoorW.PrintLast
set_option linter.unusedVariables false
set_option linter.unusedSimpArgs false
def SmallV (l : List ByteArray) : Prop := ∀ s ∈ l, s.size ≤ 140737488351232
def SmallR (l : List S25) : Prop := ∀ r ∈ l, r.f0.size ≤ 140737488351232 ∧ SmallV r.f2
theorem skipUp_ge (hi : Int) (B : List ByteArray) : ∀ (d : Nat) (lo : Int), (hi + 1 - lo).toNat = d → lo ≤ skipUp lo hi B
  | d, lo, hd => by
    by_cases h : lo ≤ hi ∧ memS B (dec lo) = true
    · rw [skipUp_step h.1 h.2]
      cases d with
      | zero => omega
      | succ d => have := skipUp_ge hi B d (lo + 1) (by omega); omega
    · rw [skipUp_stop (by by_cases h1 : lo ≤ hi; · right; simpa [h1] using h
                          · exact .inl h1)]
      omega
theorem skipDown_le (lo : Int) (B : List ByteArray) : ∀ (d : Nat) (hi : Int), (hi + 1 - lo).toNat = d → skipDown lo hi B ≤ hi
  | d, hi, hd => by
    by_cases h : lo ≤ hi ∧ memS B (dec hi) = true
    · rw [skipDown_step h.1 h.2]
      cases d with
      | zero => omega
      | succ d => have := skipDown_le lo B d (hi - 1) (by omega); omega
    · rw [skipDown_stop (by by_cases h1 : lo ≤ hi; · right; simpa [h1] using h
                            · exact .inl h1)]
      omega
theorem numbers2_small (lo hi : Int) (B : List ByteArray) (hB : SmallV B) (h1 : -1000000000000 ≤ lo) (h2 : hi ≤ 1000000000000) : SmallV (numbers2 lo hi B).1.vals := by
  unfold numbers2
  dsimp only
  split
  · intro s hs; exact hB s (List.mem_filter.1 hs).1
  · intro s hs
    have hs2 : s ∈ rest lo hi (B.filter (within lo hi)) := hs
    unfold rest at hs2
    rw [mem_groupS] at hs2
    obtain ⟨n, hn, rfl⟩ := List.mem_map.1 (List.mem_filter.1 hs2).1
    unfold intRange at hn
    obtain ⟨i, hi2, rfl⟩ := List.mem_map.1 hn
    have hi3 : i < (hi + 1 - lo).toNat := List.mem_range.1 hi2
    have := dec_size (n := lo + (i : Int)) (by omega) (by omega)
    omega
theorem numbersP_small (lo hi : Int) (B : List ByteArray) (hB : SmallV B) (h1 : -1000000000000 ≤ lo) (h2 : hi ≤ 1000000000000) : SmallV (numbersP lo hi B).1.vals := by
  unfold numbersP
  have a := skipUp_ge hi B _ lo rfl
  have b := skipDown_le (skipUp lo hi B) B _ hi rfl
  exact numbers2_small _ _ B hB (by omega) (by omega)
theorem group_small {l : List ByteArray} (h : SmallV l) : SmallV (groupS l) := fun s hs => h s ((mem_groupS l s).1 hs)
theorem wrongP_n {key : ByteArray} {op : Int} {vals : List ByteArray} {n : Int} (h : wrongP key op vals n = 0) : -2147483648 ≤ n ∧ n ≤ 2147483648 := by
  unfold wrongP at h
  by_cases h1 : isName key.data.toList = false
  · rw [if_pos h1] at h; simp at h
  · rw [if_neg h1] at h
    by_cases h2 : badOp op vals n = true
    · rw [if_pos h2] at h; simp at h
    · unfold badOp at h2
      simp only [Bool.or_eq_true, not_or, decide_eq_true_iff] at h2
      omega
theorem of1_small {r : S25} (h : SmallV r.f2) : SmallV (of1 r).1.vals := by
  unfold of1 ofP
  by_cases h0 : wrongP r.f0 r.f1 r.f2 r.f3 = 0
  · have hn := wrongP_n h0
    rw [if_pos h0]
    dsimp only
    split
    · exact group_small h
    · split
      · exact group_small h
      · split
        · exact group_small h
        · split
          · exact numbersP_small _ _ [] (fun s hs => by cases hs) (by omega) (by omega)
          · split
            · exact numbersP_small _ _ [] (fun s hs => by cases hs) (by omega) (by omega)
            · exact group_small h
  · rw [if_neg h0]; intro s hs; cases hs
theorem meet1_small {x y : PSet} (hx : SmallV x.vals) (hy : SmallV y.vals) (bx : -1000000000000 ≤ x.lo ∧ x.hi ≤ 1000000000000) (by_ : -1000000000000 ≤ y.lo ∧ y.hi ≤ 1000000000000) : SmallV (meet1 x y).1.vals := by
  have hxy : SmallV (groupS (x.vals ++ y.vals)) := group_small fun s hs => by
    rcases List.mem_append.1 hs with h | h
    · exact hx s h
    · exact hy s h
  unfold meet1
  split
  · intro s hs; exact hx s (List.mem_filter.1 hs).1
  · split
    · exact hxy
    · split
      · exact numbersP_small _ _ _ hxy by_.1 by_.2
      · exact numbersP_small _ _ _ hxy (by omega) (by omega)
theorem meetP_small {x y : PSet} (hx : SmallV x.vals) (hy : SmallV y.vals) : SmallV (meetP x y).1.vals := by
  have bnd : ∀ z : PSet, checkP z.neg z.num z.vals z.lo z.hi = 0 → -1000000000000 ≤ z.lo ∧ z.hi ≤ 1000000000000 := fun z hz => by
    obtain ⟨_, _, h3, h4⟩ := checkP_ok hz
    cases hn : z.num with
    | true => have := h3 hn; omega
    | false => have := h4 hn; omega
  have z0 : SmallV zeroSet.vals := fun s hs => by cases hs
  have m2 : ∀ p q : PSet, SmallV (meet1 p q).1.vals → SmallV (meet2 p q).1.vals := fun p q h => by
    unfold meet2
    split
    · exact h
    · exact z0
  unfold meetP
  split
  · rename_i h1
    split
    · rename_i h2
      split
      · exact m2 _ _ (meet1_small hy hx (bnd y h2) (bnd x h1))
      · exact m2 _ _ (meet1_small hx hy (bnd x h1) (bnd y h2))
    · exact z0
  · exact z0
theorem allP_err : ∀ (l : List S25) (acc : List S42), (allP l acc).2 = 0 → (allP l acc).1 = acc ++ l.map fun r => pS (of1 r).1
  | [], acc, _ => by simp [allP]
  | r :: l, acc, h => by
    unfold allP at h ⊢
    by_cases h0 : (of1 r).2 = 0
    · rw [if_pos h0] at h ⊢
      rw [allP_err l _ h]
      simp
    · rw [if_neg h0] at h
      exact absurd h h0
theorem setsP_ok {l : List S25} {most : Int} (h : (setsP l most).2 = 0) : (l.length : Int) ≤ most ∧ (setsP l most).1 = l.map fun r => pS (of1 r).1 := by
  unfold setsP at h ⊢
  by_cases hl : (l.length : Int) > most
  · rw [if_pos hl] at h; simp at h
  · rw [if_neg hl] at h ⊢
    exact ⟨by omega, by simpa using allP_err l [] h⟩
theorem sets_l0 (l : List S25) (hs : SmallR l) (hl : l.length ≤ 1000) : ∀ (d i : Nat) (acc : List S42), i + d = l.length → acc.length = i →
    reqs_sets.l0 (d + 1) acc l (l.length : Int) (i : Int) = some (allP (l.drop i) acc)
  | 0, i, acc, h, ha => by
    rw [reqs_sets.l0, if_neg (by omega), List.drop_eq_nil_of_le (by omega)]; rfl
  | d + 1, i, acc, h, ha => by
    have hi : i < l.length := by omega
    have hrd : rd_T25 l (i : Int) = l[i] := by simp [rd_T25, List.getD_eq_getElem?_getD, List.getElem?_eq_getElem hi]
    have hsm := hs l[i] (List.getElem_mem hi)
    have hof : valset_Of.f l[i].f0 l[i].f1 l[i].f2 l[i].f3 = some (flat7 (of1 l[i])) := by
      unfold valset_Of.f
      rw [if_pos hsm.1, if_pos ((smallL_iff _).2 hsm.2)]; rfl
    rw [reqs_sets.l0, if_pos (by omega), if_pos (by omega), if_pos (by omega), hrd, hof, Option.bind_some, List.drop_eq_getElem_cons hi, allP]
    show (if (of1 l[i]).2 = 0 then _ else _) = _
    by_cases h0 : (of1 l[i]).2 = 0
    · rw [if_pos h0, if_pos h0, if_pos (by omega), show wrap64 ((i : Int) + 1) = ((i + 1 : Nat) : Int) by unfold wrap64; omega]
      exact sets_l0 l hs hl d (i + 1) _ (by omega) (by simp; omega)
    · rw [if_neg h0, if_neg h0]
      rfl
/-- What reqs.sets answers. -/
theorem sets_f (l : List S25) (hs : SmallR l) (most : Int) (hm : most ≤ 1000) : reqs_sets.f (l.length + 1) l most = some (setsP l most) := by
  unfold reqs_sets.f setsP
  by_cases h : (l.length : Int) > most
  · rw [if_pos h, if_pos h]
  · rw [if_neg h, if_neg h]
    exact sets_l0 l hs (by omega) l.length 0 [] (by omega) rfl
theorem small_set {l : List S25} (hs : SmallR l) {x} (hx : x ∈ l.map fun r => pS (of1 r).1) : SmallV x.f3 := by
  obtain ⟨r, hr, rfl⟩ := List.mem_map.1 hx
  exact of1_small (hs r hr).2
def SmallK (KS : List S44) : Prop := ∀ x ∈ KS, SmallV x.f1.f3
theorem smallK_put {KS : List S44} (h : SmallK KS) (k : ByteArray) {s} (hs : SmallV s.f3) : SmallK (putK KS k s) := fun x hx => by
  rcases mem_putK KS k s x hx with hx | rfl
  · exact h x hx
  · exact hs
def smallRB (l : List S25) : Bool := l.all fun r => decide (r.f0.size ≤ 140737488351232) && smallL r.f2
theorem smallRB_iff (l : List S25) : smallRB l = true ↔ SmallR l := by
  unfold smallRB SmallR SmallV
  simp only [List.all_eq_true, Bool.and_eq_true, decide_eq_true_iff, smallL_iff]
end Go.Proofs.YtblfbdlhphhfnaaGreatDoor.PA
