/- The document's words and rounds are the program's: lists of words, no program walked. -/
import Derived.Test.YtkejacgedipoeaaDRef
namespace Go.Proofs.Ytkejacgedipoeaa.P
open Go.RowKit Go.Proofs.YtkejacgedipoeaaW.PrintWords Go.Proofs.YtkejacgedipoeaaW.PrintLast Go.Proofs.YtkejacgedipoeaaW.PrintMore Go.Proofs.Ytkejacgedipoeaa.Pl

theorem word_sum (s : ByteArray) (i : Nat) (hs : 4 * i + 4 ≤ s.size) (hm : s.size ≤ 140737488351232) :
    wordL s i = bt s (4 * (i : Int)) * 16777216 + bt s (4 * (i : Int) + 1) * 65536 + bt s (4 * (i : Int) + 2) * 256 + bt s (4 * (i : Int) + 3) := by
  have h0 : wrap64 (4 * (i : Int)) = 4 * i := by unfold wrap64; omega
  have h1 : wrap64 (4 * (i : Int) + 1) = 4 * i + 1 := by unfold wrap64; omega
  have h2 : wrap64 (4 * (i : Int) + 2) = 4 * i + 2 := by unfold wrap64; omega
  have h3 : wrap64 (4 * (i : Int) + 3) = 4 * i + 3 := by unfold wrap64; omega
  have b0 := bt_range s (4 * (i : Int)); have b1 := bt_range s (4 * (i : Int) + 1); have b2 := bt_range s (4 * (i : Int) + 2); have b3 := bt_range s (4 * (i : Int) + 3)
  unfold wordL digest_word.f
  rw [h0, h1, h2, h3]
  repeat rw [if_pos (by omega)]
  rw [Option.getD_some]
  generalize bt s (4 * (i : Int)) = a at *
  generalize bt s (4 * (i : Int) + 1) = b at *
  generalize bt s (4 * (i : Int) + 2) = c at *
  generalize bt s (4 * (i : Int) + 3) = d at *
  have ea : a % 4294967296 * 16777216 % 4294967296 = a * 16777216 := by omega
  have eb : b % 4294967296 * 65536 % 4294967296 = b * 65536 := by omega
  have ec : c % 4294967296 * 256 % 4294967296 = c * 256 := by omega
  have ed : d % 4294967296 = d := by omega
  rw [ea, eb, ec, ed]
  rw [bits_join .u32 32 (by decide) k32 24 (a * 16777216) (b * 65536) (by omega) (by omega) (by omega) (by omega) (by omega) (by omega)]
  rw [bits_join .u32 32 (by decide) k32 16 (a * 16777216 + b * 65536) (c * 256) (by omega) (by omega) (by omega) (by omega) (by omega) (by omega)]
  rw [bits_join .u32 32 (by decide) k32 8 (a * 16777216 + b * 65536 + c * 256) d (by omega) (by omega) (by omega) (by omega) (by omega) (by omega)]
theorem word_wd (s : ByteArray) (i : Nat) (hs : 4 * i + 4 ≤ s.size) (hm : s.size ≤ 140737488351232) : Wd (wordL s i) := by
  have b0 := bt_range s (4 * (i : Int)); have b1 := bt_range s (4 * (i : Int) + 1); have b2 := bt_range s (4 * (i : Int) + 2); have b3 := bt_range s (4 * (i : Int) + 3)
  rw [word_sum s i hs hm]
  unfold Wd
  omega
/-- A text's first words. -/
def wordsN (s : ByteArray) : Nat → List Int
  | 0 => []
  | i + 1 => wordsN s i ++ [wordL s i]
theorem wordsN_length (s : ByteArray) (i : Nat) : (wordsN s i).length = i := by
  induction i with
  | zero => rfl
  | succ i ih => simp only [wordsN, List.length_append, ih, List.length_cons, List.length_nil]
theorem sum4 (a b c d : Int) (ha : 0 ≤ a ∧ a ≤ 255) (hb : 0 ≤ b ∧ b ≤ 255) (hc : 0 ≤ c ∧ c ≤ 255) (hd : 0 ≤ d ∧ d ≤ 255) :
    wrap64 ((wrap64 ((wrap64 ((wrap64 ((wrap64 a) * 16777216)) + (wrap64 ((wrap64 b) * 65536)))) + (wrap64 ((wrap64 c) * 256)))) + (wrap64 d)) = a * 16777216 + b * 65536 + c * 256 + d := by
  have ea : wrap64 a = a := w64 (by omega) (by omega)
  have eb : wrap64 b = b := w64 (by omega) (by omega)
  have ec : wrap64 c = c := w64 (by omega) (by omega)
  have ed : wrap64 d = d := w64 (by omega) (by omega)
  have fa : wrap64 (a * 16777216) = a * 16777216 := w64 (by omega) (by omega)
  have fb : wrap64 (b * 65536) = b * 65536 := w64 (by omega) (by omega)
  have fc : wrap64 (c * 256) = c * 256 := w64 (by omega) (by omega)
  have g1 : wrap64 (a * 16777216 + b * 65536) = a * 16777216 + b * 65536 := w64 (by omega) (by omega)
  have g2 : wrap64 (a * 16777216 + b * 65536 + c * 256) = a * 16777216 + b * 65536 + c * 256 := w64 (by omega) (by omega)
  have g3 : wrap64 (a * 16777216 + b * 65536 + c * 256 + d) = a * 16777216 + b * 65536 + c * 256 + d := w64 (by omega) (by omega)
  rw [ea, eb, ec, ed, fa, fb, fc, g1, g2, g3]
theorem words_l0 (s : ByteArray) (n : Nat) (hs : s.size = 4 * n) (hm : s.size ≤ 4096) (d : Nat) : ∀ (i k : Nat), i + d = n → 1 ≤ k → armadaref12_Words.l0 (k + d) s (wordsN s i) (4 * (i : Int)) = some (wordsN s n) := by
  induction d with
  | zero =>
    intro i k hi hk
    obtain ⟨k, rfl⟩ : ∃ q, k = q + 1 := ⟨k - 1, by omega⟩
    obtain rfl : i = n := by omega
    have h3 : wrap64 (4 * (i : Int) + 3) = 4 * i + 3 := by unfold wrap64; omega
    rw [Nat.add_zero, armadaref12_Words.l0, h3, if_neg (by omega)]
  | succ d ih =>
    intro i k hi hk
    have h1 : wrap64 (4 * (i : Int) + 1) = 4 * i + 1 := by unfold wrap64; omega
    have h2 : wrap64 (4 * (i : Int) + 2) = 4 * i + 2 := by unfold wrap64; omega
    have h3 : wrap64 (4 * (i : Int) + 3) = 4 * i + 3 := by unfold wrap64; omega
    have h4 : wrap64 (4 * (i : Int) + 4) = 4 * ((i + 1 : Nat) : Int) := by unfold wrap64; omega
    have b0 := bt_range s (4 * (i : Int)); have b1 := bt_range s (4 * (i : Int) + 1); have b2 := bt_range s (4 * (i : Int) + 2); have b3 := bt_range s (4 * (i : Int) + 3)
    have hw := word_sum s i (by omega) (by omega)
    rw [← Nat.add_assoc, armadaref12_Words.l0, h1, h2, h3, h4]
    have hlen : (wordsN s i).length = i := wordsN_length s i
    repeat rw [if_pos (by omega)]
    have e : wrap64 ((wrap64 ((wrap64 ((wrap64 ((wrap64 (bt s (4 * (i : Int)))) * 16777216)) + (wrap64 ((wrap64 (bt s (4 * (i : Int) + 1))) * 65536)))) + (wrap64 ((wrap64 (bt s (4 * (i : Int) + 2))) * 256)))) + (wrap64 (bt s (4 * (i : Int) + 3)))) = wordL s i := by
      rw [hw]
      exact sum4 _ _ _ _ b0 b1 b2 b3
    rw [e]
    exact ih (i + 1) k (by omega) hk
theorem words_is (s : ByteArray) (n : Nat) (hs : s.size = 4 * n) (hm : s.size ≤ 4096) (k : Nat) (hk : n < k) : armadaref12_Words.f k s = some (wordsN s n) := by
  have h := words_l0 s n hs hm n 0 (k - n) (by omega) (by omega)
  rw [show k - n + n = k by omega] at h
  exact h
theorem take_set_succ (l : List Int) (i : Nat) (v : Int) (h : i < l.length) : (l.set i v).take (i + 1) = l.take i ++ [v] := by
  rw [List.take_succ_eq_append_getElem (by rw [List.length_set]; exact h), List.getElem_set_self, List.take_set, List.set_eq_of_length_le (by rw [List.length_take]; omega)]
theorem spread_words (s : ByteArray) (i : Nat) (hi : i ≤ 16) : (spreadL s i).take i = wordsN s i := by
  induction i with
  | zero => rfl
  | succ i ih =>
    rw [spreadL, take_set_succ _ _ _ (by rw [spreadL_length]; omega), ih (by omega), spreadV, if_pos (by omega), wordsN]
theorem getD_set (l : List Int) (i j : Nat) (v : Int) : (l.set i v).getD j 0 = if i = j ∧ j < l.length then v else l.getD j 0 := by
  rw [List.getD_eq_getElem?_getD, List.getD_eq_getElem?_getD, List.getElem?_set]
  by_cases h : i = j
  · subst h
    by_cases h2 : i < l.length
    · simp [h2]
    · simp [h2]
  · simp [h]
theorem spread_wd (s : ByteArray) (hs : s.size = 64) (i : Nat) : ∀ j, Wd ((spreadL s i).getD j 0) := by
  induction i with
  | zero =>
    intro j
    show Wd ((List.replicate 64 (0 : Int)).getD j 0)
    rw [List.getD_eq_getElem?_getD, List.getElem?_replicate]
    unfold Wd
    split <;> simp
  | succ i ih =>
    intro j
    rw [spreadL, getD_set]
    split
    · rw [spreadV]
      split
      · exact word_wd s i (by omega) (by omega)
      · exact Wd.mod _
    · exact ih j

/-! Rounds. -/
theorem rd_nat (l : List Int) (i : Nat) : rd l (i : Int) = l.getD i 0 := by unfold rd; rfl
theorem getD_take (l : List Int) (n j : Nat) (h : j < n) : (l.take n).getD j 0 = l.getD j 0 := by
  rw [List.getD_eq_getElem?_getD, List.getD_eq_getElem?_getD, List.getElem?_take, if_pos h]
theorem mix_num (x16 x7 s0 s1 : Int) (h1 : Wd x16) (h2 : Wd x7) (h3 : Wd s0) (h4 : Wd s1) : armadaref12_mask.f (wrap64 (wrap64 (wrap64 (s1 + x7) + s0) + x16)) = some ((x16 + x7 + s0 + s1) % 4294967296) := by
  unfold Wd at *
  rw [w64 (x := s1 + x7) (by omega) (by omega), w64 (x := s1 + x7 + s0) (by omega) (by omega), w64 (x := s1 + x7 + s0 + x16) (by omega) (by omega), mask_is _ (by omega) (by omega)]
  congr 2
  omega
theorem Wd.div {x : Int} (h : Wd x) (n : Int) (hn : 0 ≤ n) : Wd (x / n) := ⟨Int.ediv_nonneg h.1 hn, Int.lt_of_le_of_lt (Int.ediv_le_self _ h.1) h.2⟩
theorem tU7 {x : Int} (hx : Wd x) : armadaref12_turn.f x 7 = some (tU x 7) ∧ Wd (tU x 7) := tU_is hx 7 (by decide) (by decide)
theorem tU18 {x : Int} (hx : Wd x) : armadaref12_turn.f x 18 = some (tU x 18) ∧ Wd (tU x 18) := tU_is hx 18 (by decide) (by decide)
theorem tU17 {x : Int} (hx : Wd x) : armadaref12_turn.f x 17 = some (tU x 17) ∧ Wd (tU x 17) := tU_is hx 17 (by decide) (by decide)
theorem tU19 {x : Int} (hx : Wd x) : armadaref12_turn.f x 19 = some (tU x 19) ∧ Wd (tU x 19) := tU_is hx 19 (by decide) (by decide)
theorem tU6 {x : Int} (hx : Wd x) : armadaref12_turn.f x 6 = some (tU x 6) ∧ Wd (tU x 6) := tU_is hx 6 (by decide) (by decide)
theorem tU11 {x : Int} (hx : Wd x) : armadaref12_turn.f x 11 = some (tU x 11) ∧ Wd (tU x 11) := tU_is hx 11 (by decide) (by decide)
theorem tU25 {x : Int} (hx : Wd x) : armadaref12_turn.f x 25 = some (tU x 25) ∧ Wd (tU x 25) := tU_is hx 25 (by decide) (by decide)
theorem tU2 {x : Int} (hx : Wd x) : armadaref12_turn.f x 2 = some (tU x 2) ∧ Wd (tU x 2) := tU_is hx 2 (by decide) (by decide)
theorem tU13 {x : Int} (hx : Wd x) : armadaref12_turn.f x 13 = some (tU x 13) ∧ Wd (tU x 13) := tU_is hx 13 (by decide) (by decide)
theorem tU22 {x : Int} (hx : Wd x) : armadaref12_turn.f x 22 = some (tU x 22) ∧ Wd (tU x 22) := tU_is hx 22 (by decide) (by decide)
theorem sub_idx (i n : Nat) (h : n ≤ i) (hi : i < 64) : wrap64 ((i : Int) - (n : Int)) = ((i - n : Nat) : Int) := by unfold wrap64; omega
theorem lt_idx (i n : Nat) (h0 : 0 < n) (h : n ≤ i) (m : Nat) (hm : m = i) : ((i - n : Nat) : Int) < (m : Int) := by omega
theorem l0_step (k i : Nat) (x0 x2 l : List Int) (hl : l.length = i) (h1 : 16 ≤ i) (h2 : i < 64) (W : ∀ j, Wd (l.getD j 0)) :
    armadaref12_rolled.l0 (k + 1) x0 x2 l (i : Int) = armadaref12_rolled.l0 k x0 x2 (l ++ [mixV (l.getD (i - 16) 0) (l.getD (i - 7) 0) (l.getD (i - 15) 0) (l.getD (i - 2) 0)]) ((i + 1 : Nat) : Int) := by
  have hi : (i : Int) < 64 := by omega
  have hlen : l.length < 17592186044416 := by omega
  have a1 : wrap64 ((i : Int) + 1) = ((i + 1 : Nat) : Int) := by unfold wrap64; omega
  have m15 : 15 ≤ i := by omega
  have m2 : 2 ≤ i := by omega
  have m7 : 7 ≤ i := by omega
  have a15 : wrap64 ((i : Int) - 15) = ((i - 15 : Nat) : Int) := sub_idx i 15 m15 h2
  have a2 : wrap64 ((i : Int) - 2) = ((i - 2 : Nat) : Int) := sub_idx i 2 m2 h2
  have a7 : wrap64 ((i : Int) - 7) = ((i - 7 : Nat) : Int) := sub_idx i 7 m7 h2
  have a16 : wrap64 ((i : Int) - 16) = ((i - 16 : Nat) : Int) := sub_idx i 16 h1 h2
  have b15 := lt_idx i 15 (by decide) m15 l.length hl
  have b2 := lt_idx i 2 (by decide) m2 l.length hl
  have b7 := lt_idx i 7 (by decide) m7 l.length hl
  have b16 := lt_idx i 16 (by decide) h1 l.length hl
  rw [armadaref12_rolled.l0, if_pos hi, a15, a2, a7, a16, a1, if_pos (Int.natCast_nonneg _), if_pos b15, if_pos (Int.natCast_nonneg _), if_pos b2, rd_nat, rd_nat, rd_nat, rd_nat]
  have w2 := W (i - 2); have w15 := W (i - 15); have w7 := W (i - 7); have w16 := W (i - 16)
  have p1 := xor_same (tU17 w2).2 (tU19 w2).2
  have p2 := xor_same (tU7 w15).2 (tU18 w15).2
  have p3 := xor_same p1.2 (w2.div 1024 (by decide))
  have p4 := xor_same p2.2 (w15.div 8 (by decide))
  have qm := mix_num _ _ _ _ w16 w7 p4.2 p3.2
  rw [(tU7 w15).1, Option.bind_some, (tU18 w15).1, Option.bind_some, (tU17 w2).1, Option.bind_some, (tU19 w2).1, Option.bind_some, if_pos (Int.natCast_nonneg _), if_pos b7, if_pos (Int.natCast_nonneg _), if_pos b16, p1.1, p3.1, p2.1, p4.1, qm, Option.bind_some, if_pos hlen]
  rfl
theorem rolled_l0 (s : ByteArray) (hs : s.size = 64) (x0 x2 : List Int) (d : Nat) : ∀ (i k : Nat), 16 ≤ i → i + d = 64 →
    armadaref12_rolled.l0 (k + d) x0 x2 ((spreadL s i).take i) (i : Int) = armadaref12_rolled.l0 k x0 x2 (spreadL s 64) 64 := by
  induction d with
  | zero =>
    intro i k hi hd
    obtain rfl : i = 64 := by omega
    rw [Nat.add_zero, List.take_of_length_le (by rw [spreadL_length]; exact Nat.le_refl _), show ((64 : Nat) : Int) = 64 from rfl]
  | succ d ih =>
    intro i k hi hd
    have hi2 : i < 64 := by omega
    have hl : ((spreadL s i).take i).length = i := by rw [List.length_take, spreadL_length]; exact Nat.min_eq_left (Nat.le_of_lt hi2)
    have hset : (spreadL s (i + 1)).take (i + 1) = (spreadL s i).take i ++ [mixV ((spreadL s i).getD (i - 16) 0) ((spreadL s i).getD (i - 7) 0) ((spreadL s i).getD (i - 15) 0) ((spreadL s i).getD (i - 2) 0)] := by
      rw [spreadL, take_set_succ _ _ _ (by rw [spreadL_length]; exact hi2), spreadV, if_neg (Nat.not_lt.2 hi)]
    have W : ∀ j, Wd (((spreadL s i).take i).getD j 0) := by
      intro j
      by_cases hj : j < i
      · rw [getD_take _ _ _ hj]; exact spread_wd s hs i j
      · rw [List.getD_eq_getElem?_getD, List.getElem?_eq_none (by rw [hl]; exact Nat.le_of_not_lt hj)]
        exact ⟨Int.le_refl _, by decide⟩
    have e16 := getD_take (spreadL s i) i (i - 16) (Nat.sub_lt (Nat.lt_of_lt_of_le (by decide) hi) (by decide))
    have e7 := getD_take (spreadL s i) i (i - 7) (Nat.sub_lt (Nat.lt_of_lt_of_le (by decide) hi) (by decide))
    have e15 := getD_take (spreadL s i) i (i - 15) (Nat.sub_lt (Nat.lt_of_lt_of_le (by decide) hi) (by decide))
    have e2 := getD_take (spreadL s i) i (i - 2) (Nat.sub_lt (Nat.lt_of_lt_of_le (by decide) hi) (by decide))
    have hst := l0_step (k + d) i x0 x2 ((spreadL s i).take i) hl hi hi2 W
    rw [e16, e7, e15, e2, ← hset, ih (i + 1) k (Nat.le_succ_of_le hi) (by rw [← hd]; omega)] at hst
    exact hst
end Go.Proofs.Ytkejacgedipoeaa.P
