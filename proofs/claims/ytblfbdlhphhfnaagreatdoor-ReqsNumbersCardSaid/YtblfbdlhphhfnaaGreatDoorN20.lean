import Derived.Test.YtblfbdlhphhfnaaGreatDoorN13
import Derived.Test.YtblfbdlhphhfnaaGreatDoorN14
import Derived.Test.YtblfbdlhphhfnaaGreatDoorN19
namespace Go.Proofs.YtblfbdlhphhfnaaGreatDoor.PA
open Go.RowKit Go.Maps Go.Sort Go.Proofs.YtblfbdlhphhfnaaGreatDoorW.PrintWords Go.Proofs.YtblfbdlhphhfnaaGreatDoorW.PrintLast
set_option linter.unusedVariables false
set_option linter.unusedSimpArgs false
def setZero : Array Value := #[.bool false, .bool false, .bool false, .slice none 0 0, .int .i64 0, .int .i64 0]
set_option maxHeartbeats 4000000 in
set_option maxRecDepth 100000 in
theorem numbers_walk (lo hi : Int) (b : Nat) (B : List ByteArray) (w0 w : World) (hB0 : Below w0.heap.size w0 w) (hb0 : w0.heap.size ≤ b) (hset : SetAt w b B) (hl1 : -4294967296 ≤ lo) (hl2 : lo ≤ 4294967296) (hh1 : -4294967296 ≤ hi) (hh2 : hi ≤ 4294967296)
    (hs : ∀ s ∈ B, s.size ≤ 140737488351232) (hn : B.length ≤ 1000000) (hG : GL w0) :
    Calls Tryz.prog 45 #[.int .i64 lo, .int .i64 hi, .map (some b)] w fun e w' => ∃ v : Value, e = .returned (.tuple #[.agg #[.bool (numbersP lo hi B).1.miss, .bool (numbersP lo hi B).1.neg, .bool (numbersP lo hi B).1.num, v, .int .i64 (numbersP lo hi B).1.lo, .int .i64 (numbersP lo hi B).1.hi], .bool (numbersP lo hi B).2]) ∧
      Kd.R Kd.string 9 w' w0.heap.size (fun _ => True) v (numbersP lo hi B).1.vals ∧ Below w0.heap.size w0 w' := by
  have hbw := hset.lt
  have hw0 := hB0.size
  have hu42 := Tryz.underlying42
  go_enter Tryz.func45, Tryz.ntmps45
  go_wp2
  go_loopw [0] (fun l wr => ∃ l' : Int, lo ≤ l' ∧ (l' ≤ hi + 1 ∨ l' = lo) ∧ l = .int .i64 l' ∧ Hid (skipUp lo hi B = skipUp l' hi B) ∧ SetAt wr b B ∧ Below w0.heap.size w0 wr ∧ wr.heap[w.heap.size]? = some (.cells setZero 42 (0, 0))) (fun l _ => (hi + 1 - intOf l).toNat)
  case atStart => exact ⟨lo, by omega, .inr rfl, rfl, Lib.hid rfl, hset.kept (World.grownBy_alloc w _ none) (by simp), hB0.alloc hw0 _, blk_new _ _⟩
  case round =>
    obtain ⟨l', a1, a2, rfl, HU, hs1, hb1, hz1⟩ := hrel
    have dsz : (dec l').size ≤ maxLen := by have := dec_size (n := l') (by omega) (by omega); unfold maxLen; omega
    have hway : (l' ≤ hi ∧ memS B (dec l') = true) ∨ (l' ≤ hi ∧ memS B (dec l') = false) ∨ ¬ l' ≤ hi := by
      by_cases h : l' ≤ hi
      · cases hm : memS B (dec l')
        · exact .inr (.inl ⟨h, rfl⟩)
        · exact .inl ⟨h, rfl⟩
      · exact .inr (.inr h)
    rcases hway with ⟨hle, hm⟩ | ⟨hle, hm⟩ | hle
    · have HS := Lib.hid (skipUp_step hle hm)
      have HM := Lib.hid hm; clear hm
      go_wp2_with (first | (go_at_call 61; refine (std_format _ (by omega) (by omega) _ (GL.of_below hG hb1)).mono ?_; rintro e w2 ⟨rfl, hb2⟩; have hl2 := run_set_look (hs1.below hb2) (dec l') dsz; rw [HM.out, dec] at hl2))
      go_roundw
      case rel => exact ⟨l' + 1, by omega, by omega, rfl, Lib.hid (by rw [HU.out, HS.out]), hs1.below hb2, below_then hb1 hb1.size hb2, blk_below hz1 hb2⟩
      case measure => show (hi + 1 - (l' + 1)).toNat < (hi + 1 - l').toNat; omega
    · have HS := Lib.hid (skipUp_stop (lo := l') (hi := hi) (.inr hm))
      have HM := Lib.hid hm; clear hm
      go_wp2_with (first | (go_at_call 61; refine (std_format _ (by omega) (by omega) _ (GL.of_below hG hb1)).mono ?_; rintro e w2 ⟨rfl, hb2⟩; have hl2 := run_set_look (hs1.below hb2) (dec l') dsz; rw [HM.out, dec] at hl2))
      have HU2 := Lib.hid (HU.out.trans HS.out)
      have hsx := hs1.below hb2
      have hbx := below_then hb1 hb1.size hb2
      have hzx := blk_below hz1 hb2
      clear hl2 HM HS HU hs1 hb1 hz1 hb2
      go_loopw [1] (fun h wr => ∃ h' : Int, (h' = hi ∨ l' ≤ h' + 1) ∧ h' ≤ hi ∧ h = .int .i64 h' ∧ Hid (skipDown l' hi B = skipDown l' h' B) ∧ SetAt wr b B ∧ Below w0.heap.size w0 wr ∧ wr.heap[w.heap.size]? = some (.cells setZero 42 (0, 0))) (fun h _ => (intOf h + 1 - l').toNat)
      case atStart => exact ⟨hi, .inl rfl, Int.le_refl _, rfl, Lib.hid rfl, hsx, hbx, hzx⟩
      case round =>
        obtain ⟨h', a3, a4, rfl, HD, hs1, hb1, hz1⟩ := hrel
        have dsz : (dec h').size ≤ maxLen := by have := dec_size (n := h') (by omega) (by omega); unfold maxLen; omega
        have hway : (l' ≤ h' ∧ memS B (dec h') = true) ∨ (l' ≤ h' ∧ memS B (dec h') = false) ∨ ¬ l' ≤ h' := by
          by_cases h : l' ≤ h'
          · cases hm : memS B (dec h')
            · exact .inr (.inl ⟨h, rfl⟩)
            · exact .inl ⟨h, rfl⟩
          · exact .inr (.inr h)
        rcases hway with ⟨hle2, hm⟩ | ⟨hle2, hm⟩ | hle2
        · have HS := Lib.hid (skipDown_step hle2 hm)
          have HM := Lib.hid hm; clear hm
          go_wp2_with (first | (go_at_call 61; refine (std_format _ (by omega) (by omega) _ (GL.of_below hG hb1)).mono ?_; rintro e w3 ⟨rfl, hb2⟩; have hl2 := run_set_look (hs1.below hb2) (dec h') dsz; rw [HM.out, dec] at hl2))
          go_roundw
          case rel => exact ⟨h' - 1, by omega, by omega, rfl, Lib.hid (by rw [HD.out, HS.out]), hs1.below hb2, below_then hb1 hb1.size hb2, blk_below hz1 hb2⟩
          case measure => show (h' - 1 + 1 - l').toNat < (h' + 1 - l').toNat; omega
        · have HS := Lib.hid (skipDown_stop (lo := l') (hi := h') (.inr hm))
          have HM := Lib.hid hm; clear hm
          go_wp2_with (first | (go_at_call 61; refine (std_format _ (by omega) (by omega) _ (GL.of_below hG hb1)).mono ?_; rintro e w3 ⟨rfl, hb2⟩; have hl2 := run_set_look (hs1.below hb2) (dec h') dsz; rw [HM.out, dec] at hl2; obtain ⟨D, hown, hI⟩ := hs1.below hb2) | (at_range; refine wpList_range_own _ rfl _ _ rfl 9 4 keyS Tryz.underlying75 _ b _ D rfl hown ?_; intro w4 hrg hg4 hz4))
          have HD2 := Lib.hid (HD.out.trans HS.out)
          have hby := below_then hb1 hb1.size hb2
          have hzy := blk_below hz1 hb2
          clear hl2 HM HS HD hs1 hb1 hz1 hb2
          have hr0 : w0.heap.size ≤ w3.heap.size := Nat.le_trans hw0 (Nat.le_of_lt (blk_lt hzy))
          have hrb : w3.heap.size ≠ b := hrg.ne
          have hrz : w.heap.size < w3.heap.size := blk_lt hzy
          have hb4 := hby.grown hg4 (Nat.le_trans hw0 (Nat.le_of_lt (blk_lt hzy))) (fun k hk => by cases hk)
          have hz5 := blk_grown hzy hg4 (by simp)
          clear hzy hby hg4 hz4 hown
          generalize w3.heap.size = r at hrg hr0 hrb hrz ⊢
          (try go_frame)
          go_loopw [8] (fun _ wr => ∃ (D' : DataW Nat) (left : Lit → Bool) (cnt : Nat), SetIs D' (B.filter (stillIn left l' h')) ∧ wr.ranges Tryz.prog 9 (plainElem Tryz.prog 4) b r B.length D' left cnt ∧ Below w0.heap.size w0 wr ∧ wr.heap[w.heap.size]? = some (.cells setZero 42 (0, 0)))
            (fun _ wr => wr.rangeLeft b r)
          case atStart => exact ⟨D, _, _, by rw [filt_start (fun s hs => by rw [hI.mem, memS_iff]; exact hs)]; exact hI, hrg, hb4, hz5⟩
          case round =>
            clear hrg hI hb4 hz5
            obtain ⟨D', left, cnt, hI, hrg, hbl, hz⟩ := hrel
            go_wp2_with (first
              | (at_next; refine wpList_next_ranges _ rfl _ rfl 9 keyS _ Value.string (fun c : BB => Value.bool c.v) (fun key kl hk => Maps.keyOf_string_inv Tryz.underlying9 hk) (fun v y hv => by obtain ⟨x, h1, _⟩ := plainElem_bool_inv hv; exact ⟨⟨x⟩, h1⟩) b r _ _ _ _ rfl hrg ?_ ?_)
              | go_in)
            · intro _ hl0
              have hsB : SetAt wr b (B.filter (within l' h')) := by
                rw [filt_end hl0] at hI
                exact ⟨D', ownsMap_tight hrg.owns hI.size, hI⟩
              have hP := Lib.hid (show numbersP lo hi B = numbers2 l' h' B by unfold numbersP; rw [HU2.out, HD2.out])
              have hfl : (B.filter (within l' h')).length ≤ 1000000 := Nat.le_trans (List.length_filter_le _ _) hn
              clear hI hrg hl0 HU2 HD2
              have hlen := fun ty => run_set_len hsB ty
              by_cases hbig : 64 < h' - l' + 1 - ((B.filter (within l' h')).length : Int)
              ·
                have hP2 := Lib.hid (show numbers2 l' h' B = (⟨false, true, true, B.filter (within l' h'), l', h'⟩, decide (((B.filter (within l' h')).length : Int) ≤ 64)) by unfold numbers2; exact if_pos hbig)
                generalize B.filter (within l' h') = B2 at hsB hlen hfl hbig hP2 ⊢
                obtain ⟨fc, ff⟩ := six_facts (show wr.heap[w.heap.size]? = _ from hz)
                go_wp2_with (first
                  | (go_at_call 44; refine (valset_rising.calls b B2 _ hsB (by omega)).mono ?_; rintro e w8 ⟨v, rfl, hR8, hb8⟩; obtain ⟨Av, cv, rfl⟩ := Kd.R_slice hR8; have hz8 := blk_below hz hb8; have hb8' := below_then hbl hbl.size hb8; have hlen8 := fun ty => run_set_len (hsB.below hb8) ty; obtain ⟨fc8, ff8⟩ := six_facts (show w8.heap[w.heap.size]? = _ from hz8))
                  | go_in)
                refine bodyPost_ret (results_ct rfl _ _ w.heap.size 42 #[.bool false, .bool true, .bool true, .slice Av B2.length cv, .int .i64 l', .int .i64 h'] (0, 0) _ rfl (six_put hz8 _ _ _ _ _ _) Tryz.underlying42 rfl (by kernel_rfl)) rfl ?_
                rw [hP.out, hP2.out]
                exact ⟨_, rfl, six_R hz8 (by decide) (Kd.R_lower hR8 hbl.size) _ _ _ _ _ _, six_below hb8' hw0 _ _ _ _ _ _⟩
              · have hP2 := Lib.hid (show numbers2 l' h' B = (⟨false, false, false, rest l' h' (B.filter (within l' h')), 0, 0⟩, true) by unfold numbers2; exact if_neg hbig)
                generalize B.filter (within l' h') = B2 at hsB hlen hfl hbig hP2 ⊢
                have hmm := @run_makeMap Tryz.prog
                go_wp2
                have hsM := SetAt.made wr
                have hsB1 := hsB.kept (World.grownBy_alloc wr (.map #[] 0) none) (by simp)
                have hbM := hbl.alloc hbl.size (.map #[] 0)
                have hzM := blk_alloc hz (.map #[] 0)
                have hbne : b ≠ wr.heap.size := Nat.ne_of_lt hsB.lt
                have hzne : w.heap.size ≠ wr.heap.size := Nat.ne_of_lt (blk_lt hz)
                have hwr := hbl.size
                clear hlen hsB hbl hz
                generalize wr.heap.size = m at hsM hbne hzne hwr ⊢
                go_loopw [12, 13] (fun n _ wq => ∃ n' : Int, l' ≤ n' ∧ (n' ≤ h' + 1 ∨ n' = l') ∧ n = .int .i64 n' ∧ SetAt wq m (restTo l' n' B2) ∧ SetAt wq b B2 ∧ Below w0.heap.size w0 wq ∧ wq.heap[w.heap.size]? = some (.cells setZero 42 (0, 0))) (fun n _ _ => (h' + 1 - intOf n).toNat)
                case atStart => exact ⟨l', Int.le_refl _, .inr rfl, rfl, by rw [restTo_start]; exact hsM, hsB1, hbM, hzM⟩
                case round =>
                  clear hsM hsB1 hbM hzM
                  obtain ⟨n', b1, b2, rfl, hsM, hsB1, hbq, hzq⟩ := hrel
                  have hlm := restTo_length l' n' B2
                  have hml : (restTo l' n' B2).length < maxLen := by unfold maxLen; omega
                  have dsz2 : (dec n').size ≤ maxLen := by have := dec_size (n := n') (by omega) (by omega); unfold maxLen; omega
                  by_cases hnh : n' ≤ h'
                  · cases hm : memS B2 (dec n') with
                    | true =>
                      have HS := Lib.hid (restTo_skip b1 hm)
                      have HM := Lib.hid hm; clear hm
                      go_wp2_with (first | (go_at_call 61; refine (std_format _ (by omega) (by omega) _ (GL.of_below hG hbq)).mono ?_; rintro e w8 ⟨rfl, hb8⟩; have hl8 := run_set_look (hsB1.below hb8) (dec n') dsz2; rw [HM.out, dec] at hl8))
                      go_roundw
                      case rel => exact ⟨n' + 1, by omega, by omega, rfl, by rw [HS.out]; exact hsM.below hb8, hsB1.below hb8, below_then hbq hbq.size hb8, blk_below hzq hb8⟩
                      case measure => show (h' + 1 - (n' + 1)).toNat < (h' + 1 - n').toNat; omega
                    | false =>
                      have HS := Lib.hid (restTo_put b1 hm)
                      have HM := Lib.hid hm; clear hm
                      go_wp2_with (first
                        | (go_at_call 61; refine (std_format _ (by omega) (by omega) _ (GL.of_below hG hbq)).mono ?_; rintro e w8 ⟨rfl, hb8⟩; have hl8 := run_set_look (hsB1.below hb8) (dec n') dsz2; rw [HM.out, dec] at hl8; have hsM8 := hsM.below hb8; have hb8' := below_then hbq hbq.size hb8; have hsB8 := hsB1.below hb8; have hz8 := blk_below hzq hb8)
                        | (at_mapUpdate; refine set_put hsM8 rfl _ _ _ rfl (dec n') rfl rfl rfl dsz2 hml ?_; intro w9 hsM9 hg9))
                      go_roundw
                      case rel => exact ⟨n' + 1, by omega, by omega, rfl, by rw [HS.out]; exact hsM9, hsB8.kept hg9 (by simpa using hbne), hb8'.grown hg9 hb8'.size (fun k hk => by cases hk; exact hwr), blk_grown hz8 hg9 (by simpa using hzne)⟩
                      case measure => show (h' + 1 - (n' + 1)).toNat < (h' + 1 - n').toNat; omega
                  · have HE := Lib.hid (restTo_end (B := B2) hnh b2)
                    have hml2 : (restTo l' n' B2).length * 16 ≤ 140737488355328 := by omega
                    generalize restTo l' n' B2 = SR at hsM hml2 HE
                    go_wp2_with (first
                      | (go_at_call 44; refine (valset_rising.calls m SR _ hsM hml2).mono ?_; rintro e w8 ⟨v, rfl, hR8, hb8⟩; obtain ⟨Av, cv, rfl⟩ := Kd.R_slice hR8; have hz8 := blk_below hzq hb8; have hb8' := below_then hbq hbq.size hb8; obtain ⟨fc8, ff8⟩ := six_facts (show w8.heap[w.heap.size]? = _ from hz8))
                      | go_in)
                    refine bodyPost_ret (results_ct rfl _ _ w.heap.size 42 #[.bool false, .bool false, .bool false, .slice Av SR.length cv, .int .i64 0, .int .i64 0] (0, 0) _ rfl (six_put hz8 _ _ _ _ _ _) Tryz.underlying42 rfl (by kernel_rfl)) rfl ?_
                    rw [hP.out, hP2.out, ← HE.out]
                    exact ⟨_, rfl, six_R hz8 (by decide) (Kd.R_lower hR8 hbq.size) _ _ _ _ _ _, six_below hb8' hw0 _ _ _ _ _ _⟩
            · intro x c kl yd yp w5 cnt5 hkey hlk hv hat hrg5 hlt5 hg5 hs5 hen
              clear hs5
              obtain ⟨hkl, hxs⟩ := key_inv hkey
              subst hkl
              have hxS : x ∈ B := (List.mem_filter.1 ((memS_iff _ x).1 ((hI.mem x).symm.trans (Maps.has_true_of_atKey hat)))).1
              have hxz := hs x hxS
              have hb5 := hbl.grown hg5 hbl.size (fun k hk => by cases hk; exact hr0)
              have hz5 := blk_grown hz hg5 (by intro e; injection e with e; omega)
              rcases within_cases l' h' x with ⟨hR, hW⟩ | ⟨n, hR, hW⟩
              · have HW := Lib.hid hW; clear hW
                have HR := Lib.hid hR; clear hR
                have hnum := fun W (hGW : GL W) => valset_Number.calls x 0 false W hGW (by unfold valset_Number.f; rw [if_pos hxz, HR.out])
                go_wp2_with (first
                  | (go_at_call 49; refine (hnum _ (GL.of_below hG hb5)).mono ?_; rintro e w6 ⟨rfl, hb6⟩; have hrg6 := hrg5.kept (grown_of_below hb6 none) (by simp) (by simp); have hb6' := below_then hb5 hb5.size hb6; have hz6 := blk_below hz5 hb6; clear hrg5 hb5 hz5)
                  | (at_delete; refine wpList_delete_ranges _ rfl _ _ 75 9 rfl 4 keyS Tryz.underlying75 _ b r _ _ _ _ rfl hrg6 _ _ rfl (key_of hxs) ?_; intro w7 cnt7 hrg7 hle7 hturn7; go_frame)
                  | go_in)
                rw [Maps.strike_twice] at hrg7
                go_roundw
                case rel => exact ⟨_, _, cnt7, by have h9 := hI.del (hrg6.owns.tidy keyS) x; rw [filt_drop HW.out] at h9; exact h9, hrg7, hb6'.grown hturn7.grown hb6'.size (fun k hk => by cases hk; exact hb0), blk_grown hz6 hturn7.grown (by intro e; injection e with e; omega)⟩
                case measure => rw [hrg7.left_eq, hrg.left_eq]; omega
              · rcases hW with ⟨q1, hW⟩ | ⟨q1, q2, hW⟩ | ⟨q1, q2, hW⟩
                · have HW := Lib.hid hW; clear hW
                  have HR := Lib.hid hR; clear hR
                  have hnum := fun W (hGW : GL W) => valset_Number.calls x n true W hGW (by unfold valset_Number.f; rw [if_pos hxz, HR.out])
                  go_wp2_with (first
                    | (go_at_call 49; refine (hnum _ (GL.of_below hG hb5)).mono ?_; rintro e w6 ⟨rfl, hb6⟩; have hrg6 := hrg5.kept (grown_of_below hb6 none) (by simp) (by simp); have hb6' := below_then hb5 hb5.size hb6; have hz6 := blk_below hz5 hb6; clear hrg5 hb5 hz5)
                    | (at_delete; refine wpList_delete_ranges _ rfl _ _ 75 9 rfl 4 keyS Tryz.underlying75 _ b r _ _ _ _ rfl hrg6 _ _ rfl (key_of hxs) ?_; intro w7 cnt7 hrg7 hle7 hturn7; go_frame)
                    | go_in)
                  rw [Maps.strike_twice] at hrg7
                  go_roundw
                  case rel => exact ⟨_, _, cnt7, by have h9 := hI.del (hrg6.owns.tidy keyS) x; rw [filt_drop HW.out] at h9; exact h9, hrg7, hb6'.grown hturn7.grown hb6'.size (fun k hk => by cases hk; exact hb0), blk_grown hz6 hturn7.grown (by intro e; injection e with e; omega)⟩
                  case measure => rw [hrg7.left_eq, hrg.left_eq]; omega
                · have HW := Lib.hid hW; clear hW
                  have HR := Lib.hid hR; clear hR
                  have hnum := fun W (hGW : GL W) => valset_Number.calls x n true W hGW (by unfold valset_Number.f; rw [if_pos hxz, HR.out])
                  go_wp2_with (first
                    | (go_at_call 49; refine (hnum _ (GL.of_below hG hb5)).mono ?_; rintro e w6 ⟨rfl, hb6⟩; have hrg6 := hrg5.kept (grown_of_below hb6 none) (by simp) (by simp); have hb6' := below_then hb5 hb5.size hb6; have hz6 := blk_below hz5 hb6; clear hrg5 hb5 hz5)
                    | (at_delete; refine wpList_delete_ranges _ rfl _ _ 75 9 rfl 4 keyS Tryz.underlying75 _ b r _ _ _ _ rfl hrg6 _ _ rfl (key_of hxs) ?_; intro w7 cnt7 hrg7 hle7 hturn7; go_frame)
                    | go_in)
                  rw [Maps.strike_twice] at hrg7
                  go_roundw
                  case rel => exact ⟨_, _, cnt7, by have h9 := hI.del (hrg6.owns.tidy keyS) x; rw [filt_drop HW.out] at h9; exact h9, hrg7, hb6'.grown hturn7.grown hb6'.size (fun k hk => by cases hk; exact hb0), blk_grown hz6 hturn7.grown (by intro e; injection e with e; omega)⟩
                  case measure => rw [hrg7.left_eq, hrg.left_eq]; omega
                ·
                  have HW := Lib.hid hW; clear hW
                  have HR := Lib.hid hR; clear hR
                  have hnum := fun W (hGW : GL W) => valset_Number.calls x n true W hGW (by unfold valset_Number.f; rw [if_pos hxz, HR.out])
                  go_wp2_with (first
                    | (go_at_call 49; refine (hnum _ (GL.of_below hG hb5)).mono ?_; rintro e w6 ⟨rfl, hb6⟩; have hrg6 := hrg5.kept (grown_of_below hb6 none) (by simp) (by simp); have hb6' := below_then hb5 hb5.size hb6; have hz6 := blk_below hz5 hb6; clear hrg5 hb5 hz5)
                    | go_in)
                  go_roundw
                  case rel => exact ⟨_, _, cnt5, by have h9 := hI; rw [filt_keep HW.out] at h9; exact h9, hrg6, hb6', hz6⟩
                  case measure => rw [hrg6.left_eq, hrg.left_eq]; exact hlt5
        · have HS := Lib.hid (skipDown_stop (lo := l') (hi := h') (B := B) (.inl hle2))
          obtain ⟨D, hown, hI⟩ := hs1
          go_wp2_with (first | (at_range; refine wpList_range_own _ rfl _ _ rfl 9 4 keyS Tryz.underlying75 _ b _ D rfl hown ?_; intro w4 hrg hg4 hz4))
          have HD2 := Lib.hid (HD.out.trans HS.out)
          have hby := hb1
          have hzy := hz1
          clear HS HD hb1 hz1
          have hr0 : w0.heap.size ≤ wr.heap.size := Nat.le_trans hw0 (Nat.le_of_lt (blk_lt hzy))
          have hrb : wr.heap.size ≠ b := hrg.ne
          have hrz : w.heap.size < wr.heap.size := blk_lt hzy
          have hb4 := hby.grown hg4 (Nat.le_trans hw0 (Nat.le_of_lt (blk_lt hzy))) (fun k hk => by cases hk)
          have hz5 := blk_grown hzy hg4 (by simp)
          clear hzy hby hg4 hz4 hown
          generalize wr.heap.size = r at hrg hr0 hrb hrz ⊢
          (try go_frame)
          go_loopw [8] (fun _ wr => ∃ (D' : DataW Nat) (left : Lit → Bool) (cnt : Nat), SetIs D' (B.filter (stillIn left l' h')) ∧ wr.ranges Tryz.prog 9 (plainElem Tryz.prog 4) b r B.length D' left cnt ∧ Below w0.heap.size w0 wr ∧ wr.heap[w.heap.size]? = some (.cells setZero 42 (0, 0)))
            (fun _ wr => wr.rangeLeft b r)
          case atStart => exact ⟨D, _, _, by rw [filt_start (fun s hs => by rw [hI.mem, memS_iff]; exact hs)]; exact hI, hrg, hb4, hz5⟩
          case round =>
            clear hrg hI hb4 hz5
            obtain ⟨D', left, cnt, hI, hrg, hbl, hz⟩ := hrel
            go_wp2_with (first
              | (at_next; refine wpList_next_ranges _ rfl _ rfl 9 keyS _ Value.string (fun c : BB => Value.bool c.v) (fun key kl hk => Maps.keyOf_string_inv Tryz.underlying9 hk) (fun v y hv => by obtain ⟨x, h1, _⟩ := plainElem_bool_inv hv; exact ⟨⟨x⟩, h1⟩) b r _ _ _ _ rfl hrg ?_ ?_)
              | go_in)
            · intro _ hl0
              have hsB : SetAt wr b (B.filter (within l' h')) := by
                rw [filt_end hl0] at hI
                exact ⟨D', ownsMap_tight hrg.owns hI.size, hI⟩
              have hP := Lib.hid (show numbersP lo hi B = numbers2 l' h' B by unfold numbersP; rw [HU2.out, HD2.out])
              have hfl : (B.filter (within l' h')).length ≤ 1000000 := Nat.le_trans (List.length_filter_le _ _) hn
              clear hI hrg hl0 HU2 HD2
              have hlen := fun ty => run_set_len hsB ty
              by_cases hbig : 64 < h' - l' + 1 - ((B.filter (within l' h')).length : Int)
              ·
                exact absurd hbig (by omega)
              · have hP2 := Lib.hid (show numbers2 l' h' B = (⟨false, false, false, rest l' h' (B.filter (within l' h')), 0, 0⟩, true) by unfold numbers2; exact if_neg hbig)
                generalize B.filter (within l' h') = B2 at hsB hlen hfl hbig hP2 ⊢
                have hmm := @run_makeMap Tryz.prog
                go_wp2
                have hsM := SetAt.made wr
                have hsB1 := hsB.kept (World.grownBy_alloc wr (.map #[] 0) none) (by simp)
                have hbM := hbl.alloc hbl.size (.map #[] 0)
                have hzM := blk_alloc hz (.map #[] 0)
                have hbne : b ≠ wr.heap.size := Nat.ne_of_lt hsB.lt
                have hzne : w.heap.size ≠ wr.heap.size := Nat.ne_of_lt (blk_lt hz)
                have hwr := hbl.size
                clear hlen hsB hbl hz
                generalize wr.heap.size = m at hsM hbne hzne hwr ⊢
                go_loopw [12, 13] (fun n _ wq => ∃ n' : Int, l' ≤ n' ∧ (n' ≤ h' + 1 ∨ n' = l') ∧ n = .int .i64 n' ∧ SetAt wq m (restTo l' n' B2) ∧ SetAt wq b B2 ∧ Below w0.heap.size w0 wq ∧ wq.heap[w.heap.size]? = some (.cells setZero 42 (0, 0))) (fun n _ _ => (h' + 1 - intOf n).toNat)
                case atStart => exact ⟨l', Int.le_refl _, .inr rfl, rfl, by rw [restTo_start]; exact hsM, hsB1, hbM, hzM⟩
                case round =>
                  clear hsM hsB1 hbM hzM
                  obtain ⟨n', b1, b2, rfl, hsM, hsB1, hbq, hzq⟩ := hrel
                  have hlm := restTo_length l' n' B2
                  have hml : (restTo l' n' B2).length < maxLen := by unfold maxLen; omega
                  have dsz2 : (dec n').size ≤ maxLen := by have := dec_size (n := n') (by omega) (by omega); unfold maxLen; omega
                  by_cases hnh : n' ≤ h'
                  · cases hm : memS B2 (dec n') with
                    | true =>
                      have HS := Lib.hid (restTo_skip b1 hm)
                      have HM := Lib.hid hm; clear hm
                      go_wp2_with (first | (go_at_call 61; refine (std_format _ (by omega) (by omega) _ (GL.of_below hG hbq)).mono ?_; rintro e w8 ⟨rfl, hb8⟩; have hl8 := run_set_look (hsB1.below hb8) (dec n') dsz2; rw [HM.out, dec] at hl8))
                      go_roundw
                      case rel => exact ⟨n' + 1, by omega, by omega, rfl, by rw [HS.out]; exact hsM.below hb8, hsB1.below hb8, below_then hbq hbq.size hb8, blk_below hzq hb8⟩
                      case measure => show (h' + 1 - (n' + 1)).toNat < (h' + 1 - n').toNat; omega
                    | false =>
                      have HS := Lib.hid (restTo_put b1 hm)
                      have HM := Lib.hid hm; clear hm
                      go_wp2_with (first
                        | (go_at_call 61; refine (std_format _ (by omega) (by omega) _ (GL.of_below hG hbq)).mono ?_; rintro e w8 ⟨rfl, hb8⟩; have hl8 := run_set_look (hsB1.below hb8) (dec n') dsz2; rw [HM.out, dec] at hl8; have hsM8 := hsM.below hb8; have hb8' := below_then hbq hbq.size hb8; have hsB8 := hsB1.below hb8; have hz8 := blk_below hzq hb8)
                        | (at_mapUpdate; refine set_put hsM8 rfl _ _ _ rfl (dec n') rfl rfl rfl dsz2 hml ?_; intro w9 hsM9 hg9))
                      go_roundw
                      case rel => exact ⟨n' + 1, by omega, by omega, rfl, by rw [HS.out]; exact hsM9, hsB8.kept hg9 (by simpa using hbne), hb8'.grown hg9 hb8'.size (fun k hk => by cases hk; exact hwr), blk_grown hz8 hg9 (by simpa using hzne)⟩
                      case measure => show (h' + 1 - (n' + 1)).toNat < (h' + 1 - n').toNat; omega
                  · have HE := Lib.hid (restTo_end (B := B2) hnh b2)
                    have hml2 : (restTo l' n' B2).length * 16 ≤ 140737488355328 := by omega
                    generalize restTo l' n' B2 = SR at hsM hml2 HE
                    go_wp2_with (first
                      | (go_at_call 44; refine (valset_rising.calls m SR _ hsM hml2).mono ?_; rintro e w8 ⟨v, rfl, hR8, hb8⟩; obtain ⟨Av, cv, rfl⟩ := Kd.R_slice hR8; have hz8 := blk_below hzq hb8; have hb8' := below_then hbq hbq.size hb8; obtain ⟨fc8, ff8⟩ := six_facts (show w8.heap[w.heap.size]? = _ from hz8))
                      | go_in)
                    refine bodyPost_ret (results_ct rfl _ _ w.heap.size 42 #[.bool false, .bool false, .bool false, .slice Av SR.length cv, .int .i64 0, .int .i64 0] (0, 0) _ rfl (six_put hz8 _ _ _ _ _ _) Tryz.underlying42 rfl (by kernel_rfl)) rfl ?_
                    rw [hP.out, hP2.out, ← HE.out]
                    exact ⟨_, rfl, six_R hz8 (by decide) (Kd.R_lower hR8 hbq.size) _ _ _ _ _ _, six_below hb8' hw0 _ _ _ _ _ _⟩
            · intro x c kl yd yp w5 cnt5 hkey hlk hv hat hrg5 hlt5 hg5 hs5 hen
              clear hs5
              obtain ⟨hkl, hxs⟩ := key_inv hkey
              subst hkl
              have hxS : x ∈ B := (List.mem_filter.1 ((memS_iff _ x).1 ((hI.mem x).symm.trans (Maps.has_true_of_atKey hat)))).1
              have hxz := hs x hxS
              have hb5 := hbl.grown hg5 hbl.size (fun k hk => by cases hk; exact hr0)
              have hz5 := blk_grown hz hg5 (by intro e; injection e with e; omega)
              rcases within_cases l' h' x with ⟨hR, hW⟩ | ⟨n, hR, hW⟩
              · have HW := Lib.hid hW; clear hW
                have HR := Lib.hid hR; clear hR
                have hnum := fun W (hGW : GL W) => valset_Number.calls x 0 false W hGW (by unfold valset_Number.f; rw [if_pos hxz, HR.out])
                go_wp2_with (first
                  | (go_at_call 49; refine (hnum _ (GL.of_below hG hb5)).mono ?_; rintro e w6 ⟨rfl, hb6⟩; have hrg6 := hrg5.kept (grown_of_below hb6 none) (by simp) (by simp); have hb6' := below_then hb5 hb5.size hb6; have hz6 := blk_below hz5 hb6; clear hrg5 hb5 hz5)
                  | (at_delete; refine wpList_delete_ranges _ rfl _ _ 75 9 rfl 4 keyS Tryz.underlying75 _ b r _ _ _ _ rfl hrg6 _ _ rfl (key_of hxs) ?_; intro w7 cnt7 hrg7 hle7 hturn7; go_frame)
                  | go_in)
                rw [Maps.strike_twice] at hrg7
                go_roundw
                case rel => exact ⟨_, _, cnt7, by have h9 := hI.del (hrg6.owns.tidy keyS) x; rw [filt_drop HW.out] at h9; exact h9, hrg7, hb6'.grown hturn7.grown hb6'.size (fun k hk => by cases hk; exact hb0), blk_grown hz6 hturn7.grown (by intro e; injection e with e; omega)⟩
                case measure => rw [hrg7.left_eq, hrg.left_eq]; omega
              · rcases hW with ⟨q1, hW⟩ | ⟨q1, q2, hW⟩ | ⟨q1, q2, hW⟩
                · have HW := Lib.hid hW; clear hW
                  have HR := Lib.hid hR; clear hR
                  have hnum := fun W (hGW : GL W) => valset_Number.calls x n true W hGW (by unfold valset_Number.f; rw [if_pos hxz, HR.out])
                  go_wp2_with (first
                    | (go_at_call 49; refine (hnum _ (GL.of_below hG hb5)).mono ?_; rintro e w6 ⟨rfl, hb6⟩; have hrg6 := hrg5.kept (grown_of_below hb6 none) (by simp) (by simp); have hb6' := below_then hb5 hb5.size hb6; have hz6 := blk_below hz5 hb6; clear hrg5 hb5 hz5)
                    | (at_delete; refine wpList_delete_ranges _ rfl _ _ 75 9 rfl 4 keyS Tryz.underlying75 _ b r _ _ _ _ rfl hrg6 _ _ rfl (key_of hxs) ?_; intro w7 cnt7 hrg7 hle7 hturn7; go_frame)
                    | go_in)
                  rw [Maps.strike_twice] at hrg7
                  go_roundw
                  case rel => exact ⟨_, _, cnt7, by have h9 := hI.del (hrg6.owns.tidy keyS) x; rw [filt_drop HW.out] at h9; exact h9, hrg7, hb6'.grown hturn7.grown hb6'.size (fun k hk => by cases hk; exact hb0), blk_grown hz6 hturn7.grown (by intro e; injection e with e; omega)⟩
                  case measure => rw [hrg7.left_eq, hrg.left_eq]; omega
                · have HW := Lib.hid hW; clear hW
                  have HR := Lib.hid hR; clear hR
                  have hnum := fun W (hGW : GL W) => valset_Number.calls x n true W hGW (by unfold valset_Number.f; rw [if_pos hxz, HR.out])
                  go_wp2_with (first
                    | (go_at_call 49; refine (hnum _ (GL.of_below hG hb5)).mono ?_; rintro e w6 ⟨rfl, hb6⟩; have hrg6 := hrg5.kept (grown_of_below hb6 none) (by simp) (by simp); have hb6' := below_then hb5 hb5.size hb6; have hz6 := blk_below hz5 hb6; clear hrg5 hb5 hz5)
                    | (at_delete; refine wpList_delete_ranges _ rfl _ _ 75 9 rfl 4 keyS Tryz.underlying75 _ b r _ _ _ _ rfl hrg6 _ _ rfl (key_of hxs) ?_; intro w7 cnt7 hrg7 hle7 hturn7; go_frame)
                    | go_in)
                  rw [Maps.strike_twice] at hrg7
                  go_roundw
                  case rel => exact ⟨_, _, cnt7, by have h9 := hI.del (hrg6.owns.tidy keyS) x; rw [filt_drop HW.out] at h9; exact h9, hrg7, hb6'.grown hturn7.grown hb6'.size (fun k hk => by cases hk; exact hb0), blk_grown hz6 hturn7.grown (by intro e; injection e with e; omega)⟩
                  case measure => rw [hrg7.left_eq, hrg.left_eq]; omega
                ·
                  exact absurd q1 (by omega)
    · have HS := Lib.hid (skipUp_stop (lo := l') (hi := hi) (B := B) (.inl hle))
      go_wp2
      have HU2 := Lib.hid (HU.out.trans HS.out)
      have hsx := hs1
      have hbx := hb1
      have hzx := hz1
      clear HS HU hs1 hb1 hz1
      go_loopw [1] (fun h wr => ∃ h' : Int, (h' = hi ∨ l' ≤ h' + 1) ∧ h' ≤ hi ∧ h = .int .i64 h' ∧ Hid (skipDown l' hi B = skipDown l' h' B) ∧ SetAt wr b B ∧ Below w0.heap.size w0 wr ∧ wr.heap[w.heap.size]? = some (.cells setZero 42 (0, 0))) (fun h _ => (intOf h + 1 - l').toNat)
      case atStart => exact ⟨hi, .inl rfl, Int.le_refl _, rfl, Lib.hid rfl, hsx, hbx, hzx⟩
      case round =>
        obtain ⟨h', a3, a4, rfl, HD, hs1, hb1, hz1⟩ := hrel
        have dsz : (dec h').size ≤ maxLen := by have := dec_size (n := h') (by omega) (by omega); unfold maxLen; omega
        have hway : (l' ≤ h' ∧ memS B (dec h') = true) ∨ (l' ≤ h' ∧ memS B (dec h') = false) ∨ ¬ l' ≤ h' := by
          by_cases h : l' ≤ h'
          · cases hm : memS B (dec h')
            · exact .inr (.inl ⟨h, rfl⟩)
            · exact .inl ⟨h, rfl⟩
          · exact .inr (.inr h)
        rcases hway with ⟨hle2, hm⟩ | ⟨hle2, hm⟩ | hle2
        · exact absurd hle2 (by omega)
        · exact absurd hle2 (by omega)
        · have HS := Lib.hid (skipDown_stop (lo := l') (hi := h') (B := B) (.inl hle2))
          obtain ⟨D, hown, hI⟩ := hs1
          go_wp2_with (first | (at_range; refine wpList_range_own _ rfl _ _ rfl 9 4 keyS Tryz.underlying75 _ b _ D rfl hown ?_; intro w4 hrg hg4 hz4))
          have HD2 := Lib.hid (HD.out.trans HS.out)
          have hby := hb1
          have hzy := hz1
          clear HS HD hb1 hz1
          have hr0 : w0.heap.size ≤ wr.heap.size := Nat.le_trans hw0 (Nat.le_of_lt (blk_lt hzy))
          have hrb : wr.heap.size ≠ b := hrg.ne
          have hrz : w.heap.size < wr.heap.size := blk_lt hzy
          have hb4 := hby.grown hg4 (Nat.le_trans hw0 (Nat.le_of_lt (blk_lt hzy))) (fun k hk => by cases hk)
          have hz5 := blk_grown hzy hg4 (by simp)
          clear hzy hby hg4 hz4 hown
          generalize wr.heap.size = r at hrg hr0 hrb hrz ⊢
          (try go_frame)
          go_loopw [8] (fun _ wr => ∃ (D' : DataW Nat) (left : Lit → Bool) (cnt : Nat), SetIs D' (B.filter (stillIn left l' h')) ∧ wr.ranges Tryz.prog 9 (plainElem Tryz.prog 4) b r B.length D' left cnt ∧ Below w0.heap.size w0 wr ∧ wr.heap[w.heap.size]? = some (.cells setZero 42 (0, 0)))
            (fun _ wr => wr.rangeLeft b r)
          case atStart => exact ⟨D, _, _, by rw [filt_start (fun s hs => by rw [hI.mem, memS_iff]; exact hs)]; exact hI, hrg, hb4, hz5⟩
          case round =>
            clear hrg hI hb4 hz5
            obtain ⟨D', left, cnt, hI, hrg, hbl, hz⟩ := hrel
            go_wp2_with (first
              | (at_next; refine wpList_next_ranges _ rfl _ rfl 9 keyS _ Value.string (fun c : BB => Value.bool c.v) (fun key kl hk => Maps.keyOf_string_inv Tryz.underlying9 hk) (fun v y hv => by obtain ⟨x, h1, _⟩ := plainElem_bool_inv hv; exact ⟨⟨x⟩, h1⟩) b r _ _ _ _ rfl hrg ?_ ?_)
              | go_in)
            · intro _ hl0
              have hsB : SetAt wr b (B.filter (within l' h')) := by
                rw [filt_end hl0] at hI
                exact ⟨D', ownsMap_tight hrg.owns hI.size, hI⟩
              have hP := Lib.hid (show numbersP lo hi B = numbers2 l' h' B by unfold numbersP; rw [HU2.out, HD2.out])
              have hfl : (B.filter (within l' h')).length ≤ 1000000 := Nat.le_trans (List.length_filter_le _ _) hn
              clear hI hrg hl0 HU2 HD2
              have hlen := fun ty => run_set_len hsB ty
              by_cases hbig : 64 < h' - l' + 1 - ((B.filter (within l' h')).length : Int)
              ·
                exact absurd hbig (by omega)
              · have hP2 := Lib.hid (show numbers2 l' h' B = (⟨false, false, false, rest l' h' (B.filter (within l' h')), 0, 0⟩, true) by unfold numbers2; exact if_neg hbig)
                generalize B.filter (within l' h') = B2 at hsB hlen hfl hbig hP2 ⊢
                have hmm := @run_makeMap Tryz.prog
                go_wp2
                have hsM := SetAt.made wr
                have hsB1 := hsB.kept (World.grownBy_alloc wr (.map #[] 0) none) (by simp)
                have hbM := hbl.alloc hbl.size (.map #[] 0)
                have hzM := blk_alloc hz (.map #[] 0)
                have hbne : b ≠ wr.heap.size := Nat.ne_of_lt hsB.lt
                have hzne : w.heap.size ≠ wr.heap.size := Nat.ne_of_lt (blk_lt hz)
                have hwr := hbl.size
                clear hlen hsB hbl hz
                generalize wr.heap.size = m at hsM hbne hzne hwr ⊢
                go_loopw [12, 13] (fun n _ wq => ∃ n' : Int, l' ≤ n' ∧ (n' ≤ h' + 1 ∨ n' = l') ∧ n = .int .i64 n' ∧ SetAt wq m (restTo l' n' B2) ∧ SetAt wq b B2 ∧ Below w0.heap.size w0 wq ∧ wq.heap[w.heap.size]? = some (.cells setZero 42 (0, 0))) (fun n _ _ => (h' + 1 - intOf n).toNat)
                case atStart => exact ⟨l', Int.le_refl _, .inr rfl, rfl, by rw [restTo_start]; exact hsM, hsB1, hbM, hzM⟩
                case round =>
                  clear hsM hsB1 hbM hzM
                  obtain ⟨n', b1, b2, rfl, hsM, hsB1, hbq, hzq⟩ := hrel
                  have hlm := restTo_length l' n' B2
                  have hml : (restTo l' n' B2).length < maxLen := by unfold maxLen; omega
                  have dsz2 : (dec n').size ≤ maxLen := by have := dec_size (n := n') (by omega) (by omega); unfold maxLen; omega
                  by_cases hnh : n' ≤ h'
                  · cases hm : memS B2 (dec n') with
                    | true =>
                      have HS := Lib.hid (restTo_skip b1 hm)
                      have HM := Lib.hid hm; clear hm
                      go_wp2_with (first | (go_at_call 61; refine (std_format _ (by omega) (by omega) _ (GL.of_below hG hbq)).mono ?_; rintro e w8 ⟨rfl, hb8⟩; have hl8 := run_set_look (hsB1.below hb8) (dec n') dsz2; rw [HM.out, dec] at hl8))
                      go_roundw
                      case rel => exact ⟨n' + 1, by omega, by omega, rfl, by rw [HS.out]; exact hsM.below hb8, hsB1.below hb8, below_then hbq hbq.size hb8, blk_below hzq hb8⟩
                      case measure => show (h' + 1 - (n' + 1)).toNat < (h' + 1 - n').toNat; omega
                    | false =>
                      have HS := Lib.hid (restTo_put b1 hm)
                      have HM := Lib.hid hm; clear hm
                      go_wp2_with (first
                        | (go_at_call 61; refine (std_format _ (by omega) (by omega) _ (GL.of_below hG hbq)).mono ?_; rintro e w8 ⟨rfl, hb8⟩; have hl8 := run_set_look (hsB1.below hb8) (dec n') dsz2; rw [HM.out, dec] at hl8; have hsM8 := hsM.below hb8; have hb8' := below_then hbq hbq.size hb8; have hsB8 := hsB1.below hb8; have hz8 := blk_below hzq hb8)
                        | (at_mapUpdate; refine set_put hsM8 rfl _ _ _ rfl (dec n') rfl rfl rfl dsz2 hml ?_; intro w9 hsM9 hg9))
                      go_roundw
                      case rel => exact ⟨n' + 1, by omega, by omega, rfl, by rw [HS.out]; exact hsM9, hsB8.kept hg9 (by simpa using hbne), hb8'.grown hg9 hb8'.size (fun k hk => by cases hk; exact hwr), blk_grown hz8 hg9 (by simpa using hzne)⟩
                      case measure => show (h' + 1 - (n' + 1)).toNat < (h' + 1 - n').toNat; omega
                  · have HE := Lib.hid (restTo_end (B := B2) hnh b2)
                    have hml2 : (restTo l' n' B2).length * 16 ≤ 140737488355328 := by omega
                    generalize restTo l' n' B2 = SR at hsM hml2 HE
                    go_wp2_with (first
                      | (go_at_call 44; refine (valset_rising.calls m SR _ hsM hml2).mono ?_; rintro e w8 ⟨v, rfl, hR8, hb8⟩; obtain ⟨Av, cv, rfl⟩ := Kd.R_slice hR8; have hz8 := blk_below hzq hb8; have hb8' := below_then hbq hbq.size hb8; obtain ⟨fc8, ff8⟩ := six_facts (show w8.heap[w.heap.size]? = _ from hz8))
                      | go_in)
                    refine bodyPost_ret (results_ct rfl _ _ w.heap.size 42 #[.bool false, .bool false, .bool false, .slice Av SR.length cv, .int .i64 0, .int .i64 0] (0, 0) _ rfl (six_put hz8 _ _ _ _ _ _) Tryz.underlying42 rfl (by kernel_rfl)) rfl ?_
                    rw [hP.out, hP2.out, ← HE.out]
                    exact ⟨_, rfl, six_R hz8 (by decide) (Kd.R_lower hR8 hbq.size) _ _ _ _ _ _, six_below hb8' hw0 _ _ _ _ _ _⟩
            · intro x c kl yd yp w5 cnt5 hkey hlk hv hat hrg5 hlt5 hg5 hs5 hen
              clear hs5
              obtain ⟨hkl, hxs⟩ := key_inv hkey
              subst hkl
              have hxS : x ∈ B := (List.mem_filter.1 ((memS_iff _ x).1 ((hI.mem x).symm.trans (Maps.has_true_of_atKey hat)))).1
              have hxz := hs x hxS
              have hb5 := hbl.grown hg5 hbl.size (fun k hk => by cases hk; exact hr0)
              have hz5 := blk_grown hz hg5 (by intro e; injection e with e; omega)
              rcases within_cases l' h' x with ⟨hR, hW⟩ | ⟨n, hR, hW⟩
              · have HW := Lib.hid hW; clear hW
                have HR := Lib.hid hR; clear hR
                have hnum := fun W (hGW : GL W) => valset_Number.calls x 0 false W hGW (by unfold valset_Number.f; rw [if_pos hxz, HR.out])
                go_wp2_with (first
                  | (go_at_call 49; refine (hnum _ (GL.of_below hG hb5)).mono ?_; rintro e w6 ⟨rfl, hb6⟩; have hrg6 := hrg5.kept (grown_of_below hb6 none) (by simp) (by simp); have hb6' := below_then hb5 hb5.size hb6; have hz6 := blk_below hz5 hb6; clear hrg5 hb5 hz5)
                  | (at_delete; refine wpList_delete_ranges _ rfl _ _ 75 9 rfl 4 keyS Tryz.underlying75 _ b r _ _ _ _ rfl hrg6 _ _ rfl (key_of hxs) ?_; intro w7 cnt7 hrg7 hle7 hturn7; go_frame)
                  | go_in)
                rw [Maps.strike_twice] at hrg7
                go_roundw
                case rel => exact ⟨_, _, cnt7, by have h9 := hI.del (hrg6.owns.tidy keyS) x; rw [filt_drop HW.out] at h9; exact h9, hrg7, hb6'.grown hturn7.grown hb6'.size (fun k hk => by cases hk; exact hb0), blk_grown hz6 hturn7.grown (by intro e; injection e with e; omega)⟩
                case measure => rw [hrg7.left_eq, hrg.left_eq]; omega
              · rcases hW with ⟨q1, hW⟩ | ⟨q1, q2, hW⟩ | ⟨q1, q2, hW⟩
                · have HW := Lib.hid hW; clear hW
                  have HR := Lib.hid hR; clear hR
                  have hnum := fun W (hGW : GL W) => valset_Number.calls x n true W hGW (by unfold valset_Number.f; rw [if_pos hxz, HR.out])
                  go_wp2_with (first
                    | (go_at_call 49; refine (hnum _ (GL.of_below hG hb5)).mono ?_; rintro e w6 ⟨rfl, hb6⟩; have hrg6 := hrg5.kept (grown_of_below hb6 none) (by simp) (by simp); have hb6' := below_then hb5 hb5.size hb6; have hz6 := blk_below hz5 hb6; clear hrg5 hb5 hz5)
                    | (at_delete; refine wpList_delete_ranges _ rfl _ _ 75 9 rfl 4 keyS Tryz.underlying75 _ b r _ _ _ _ rfl hrg6 _ _ rfl (key_of hxs) ?_; intro w7 cnt7 hrg7 hle7 hturn7; go_frame)
                    | go_in)
                  rw [Maps.strike_twice] at hrg7
                  go_roundw
                  case rel => exact ⟨_, _, cnt7, by have h9 := hI.del (hrg6.owns.tidy keyS) x; rw [filt_drop HW.out] at h9; exact h9, hrg7, hb6'.grown hturn7.grown hb6'.size (fun k hk => by cases hk; exact hb0), blk_grown hz6 hturn7.grown (by intro e; injection e with e; omega)⟩
                  case measure => rw [hrg7.left_eq, hrg.left_eq]; omega
                · have HW := Lib.hid hW; clear hW
                  have HR := Lib.hid hR; clear hR
                  have hnum := fun W (hGW : GL W) => valset_Number.calls x n true W hGW (by unfold valset_Number.f; rw [if_pos hxz, HR.out])
                  go_wp2_with (first
                    | (go_at_call 49; refine (hnum _ (GL.of_below hG hb5)).mono ?_; rintro e w6 ⟨rfl, hb6⟩; have hrg6 := hrg5.kept (grown_of_below hb6 none) (by simp) (by simp); have hb6' := below_then hb5 hb5.size hb6; have hz6 := blk_below hz5 hb6; clear hrg5 hb5 hz5)
                    | (at_delete; refine wpList_delete_ranges _ rfl _ _ 75 9 rfl 4 keyS Tryz.underlying75 _ b r _ _ _ _ rfl hrg6 _ _ rfl (key_of hxs) ?_; intro w7 cnt7 hrg7 hle7 hturn7; go_frame)
                    | go_in)
                  rw [Maps.strike_twice] at hrg7
                  go_roundw
                  case rel => exact ⟨_, _, cnt7, by have h9 := hI.del (hrg6.owns.tidy keyS) x; rw [filt_drop HW.out] at h9; exact h9, hrg7, hb6'.grown hturn7.grown hb6'.size (fun k hk => by cases hk; exact hb0), blk_grown hz6 hturn7.grown (by intro e; injection e with e; omega)⟩
                  case measure => rw [hrg7.left_eq, hrg.left_eq]; omega
                ·
                  exact absurd q1 (by omega)
end Go.Proofs.YtblfbdlhphhfnaaGreatDoor.PA
