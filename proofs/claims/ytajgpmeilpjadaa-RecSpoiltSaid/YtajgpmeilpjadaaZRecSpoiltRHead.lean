/- rec's heads: what Text, Read and Make come to, of the program and of the document: the same. -/
import Derived.Test.YtajgpmeilpjadaaZRecSpoiltRSum
import Derived.Test.YtajgpmeilpjadaaZRecSpoiltM2
import Derived.Test.YtajgpmeilpjadaaZRecSpoiltM0
import Derived.Laws.BitsLemmas
set_option linter.unusedVariables false
set_option linter.unusedSimpArgs false
namespace Go.Proofs.Ytajgpmeilpjadaa.Pl
set_option linter.unusedSimpArgs false
open Go.RowKit Go.Proofs.Ytajgpmeilpjadaa.P Go.Proofs.YtajgpmeilpjadaaW.PrintWords Go.Proofs.YtajgpmeilpjadaaW.PrintLast Go.Proofs.YtajgpmeilpjadaaW.PrintMore
def okSum (e : Int) : Prop := 0 ≤ e ∧ e / 65536 < 65521 ∧ e % 65536 < 65521
instance (e : Int) : Decidable (okSum e) := by unfold okSum; infer_instance
def mayP (a b c d e : Int) : Prop := (1 ≤ a ∧ a ≤ 2) ∧ (0 ≤ b ∧ b ≤ 1073741824) ∧ (0 ≤ c ∧ c ≤ 65535) ∧ (0 ≤ d ∧ d ≤ 4096) ∧ okSum e
instance (a b c d e : Int) : Decidable (mayP a b c d e) := by unfold mayP; infer_instance
/-- A number of 64 bits. -/
def I64 (e : Int) : Prop := -9223372036854775808 ≤ e ∧ e ≤ 9223372036854775807
theorem in_spec (a b c : Int) : rec_in.f a b c = some (decide (b ≤ a ∧ a ≤ c)) := by
  unfold rec_in.f
  by_cases h : a ≥ b
  · rw [if_pos h]; congr 1; exact decide_eq_decide.2 ⟨fun x => ⟨h, x⟩, fun x => x.2⟩
  · rw [if_neg h]; congr 1; symm; exact decide_eq_false (fun x => h x.1)
theorem rollNil (e : Int) : rollSpec e [] = if okSum e then e else 0 := by
  unfold rollSpec
  by_cases h : okSum e
  · rw [if_pos h]
    have h' : 0 ≤ e ∧ e / 65536 < 65521 ∧ e % 65536 < 65521 := h
    rw [if_pos h']; show e / 65536 * 65536 + e % 65536 = e; omega
  · rw [if_neg h]
    have h' : ¬ (0 ≤ e ∧ e / 65536 < 65521 ∧ e % 65536 < 65521) := h
    rw [if_neg h']
theorem may_spec (a b c d e : Int) (he : I64 e) (k : Nat) (hk : 0 < k) : rec_Head_may.f k a b c d e = some (decide (mayP a b c d e)) := by
  unfold rec_Head_may.f
  rw [in_spec, in_spec, in_spec, in_spec]
  simp only [Option.bind_some]
  unfold mayP
  by_cases h1 : 1 ≤ a ∧ a ≤ 2
  · rw [if_pos (decide_eq_true h1)]
    by_cases h2 : 0 ≤ b ∧ b ≤ 1073741824
    · rw [if_pos (decide_eq_true h2)]
      by_cases h3 : 0 ≤ c ∧ c ≤ 65535
      · rw [if_pos (decide_eq_true h3)]
        by_cases h4 : 0 ≤ d ∧ d ≤ 4096
        · rw [if_pos (decide_eq_true h4)]
          by_cases h5 : e = 0
          · rw [if_pos h5]; congr 1; symm; exact decide_eq_true ⟨h1, h2, h3, h4, by subst h5; decide⟩
          · rw [if_neg h5, roll_spec e ⟨#[]⟩ he.1 he.2 (by show (0 : Nat) ≤ _; omega) k hk, show bs (⟨#[]⟩ : ByteArray) = [] from rfl, rollNil]
            simp only [Option.bind_some]
            congr 1
            by_cases h6 : okSum e
            · rw [if_pos h6]; simp [h1, h2, h3, h4, h6]
            · rw [if_neg h6]
              have : ¬ (0 = e) := fun x => h5 x.symm
              simp [h6, this]
        · rw [if_neg (by simpa using h4)]; congr 1; symm; exact decide_eq_false (fun x => h4 x.2.2.2.1)
      · rw [if_neg (by simpa using h3)]; congr 1; symm; exact decide_eq_false (fun x => h3 x.2.2.1)
    · rw [if_neg (by simpa using h2)]; congr 1; symm; exact decide_eq_false (fun x => h2 x.2.1)
  · rw [if_neg (by simpa using h1)]; congr 1; symm; exact decide_eq_false (fun x => h1 x.1)
def fourL (n : Int) : List Int := [n / 16777216 % 256, n / 65536 % 256, n / 256 % 256, n % 256]
def headL (a b c d e : Int) : List Int := 72 :: a % 256 :: (fourL b ++ fourL c ++ fourL d ++ fourL e ++ List.replicate 14 0)
def headT (a b c d e : Int) : ByteArray := strOfNums (headL a b c d e)
theorem fourL_range (n : Int) : ∀ x ∈ fourL n, 0 ≤ x ∧ x ≤ 255 := by
  intro x hx
  simp only [fourL, List.mem_cons, List.not_mem_nil, or_false] at hx
  omega
theorem headL_range (a b c d e : Int) : ∀ x ∈ headL a b c d e, 0 ≤ x ∧ x ≤ 255 := by
  intro x hx
  simp only [headL, fourL, List.mem_cons, List.mem_append, List.mem_replicate, List.not_mem_nil, or_false] at hx
  omega
theorem bs_headT (a b c d e : Int) : bs (headT a b c d e) = headL a b c d e := bs_strOfNums _ (headL_range a b c d e)
theorem strOfNums_size (l : List Int) : (strOfNums l).size = l.length := by simp [strOfNums, ByteArray.size]
theorem headT_size (a b c d e : Int) : (headT a b c d e).size = 32 := by rw [← bs_length, bs_headT]; rfl
theorem bytes_spec (b c d e : Int) (k : Nat) (hk : 5 ≤ k) : rec_bytes.f k [b, c, d, e] = some (strOfNums (fourL b ++ fourL c ++ fourL d ++ fourL e)) := by
  obtain ⟨k, rfl⟩ : ∃ m, k = m + 5 := ⟨k - 5, by omega⟩
  have w1 : wrap64 (0 + 1) = 1 := w64 (by omega) (by omega)
  have w2 : wrap64 (1 + 1) = 2 := w64 (by omega) (by omega)
  have w3 : wrap64 (2 + 1) = 3 := w64 (by omega) (by omega)
  have w4 : wrap64 (3 + 1) = 4 := w64 (by omega) (by omega)
  unfold rec_bytes.f
  simp only [rec_bytes.l0, Option.bind_some, List.length_cons, List.length_nil, List.length_append, w1, w2, w3, w4, fourL]
  simp [rd]
theorem filled_spec (s : ByteArray) (h : s.size ≤ 32) : rec_filled.f s = some (s ++ zerosB (32 - s.size)) := by unfold rec_filled.f; rw [if_pos h]
theorem Text_spec (a b c d e : Int) (he : I64 e) (k : Nat) (hk : 5 ≤ k) : rec_Head_Text.f k a b c d e = some (if mayP a b c d e then (headT a b c d e, true) else (⟨#[]⟩, false)) := by
  unfold rec_Head_Text.f
  rw [may_spec a b c d e he k (by omega), bytes_spec b c d e k hk]
  simp only [Option.bind_some]
  by_cases h : mayP a b c d e
  · rw [if_pos (decide_eq_true h), if_pos h, if_pos (by rw [strOfNums_size]; simp), if_pos (by rw [ByteArray.size_append, strOfNums_size, strOfNums_size]; simp [fourL, ByteArray.size])]
    have hz : (((⟨#[72]⟩ : ByteArray) ++ strOfNums [a % 256]) ++ strOfNums (fourL b ++ fourL c ++ fourL d ++ fourL e)).size = 18 := by
      rw [ByteArray.size_append, ByteArray.size_append, strOfNums_size, strOfNums_size]; simp [fourL, ByteArray.size]
    rw [filled_spec _ (by rw [hz]; omega), hz]
    simp only [Option.bind_some]
    congr 2
  · rw [if_neg (by simpa using h), if_neg h]
def numAt (s : ByteArray) (i : Int) : Int := 16777216 * bt s i + 65536 * bt s (i + 1) + 256 * bt s (i + 2) + bt s (i + 3)
theorem numAt_range (s : ByteArray) (i : Int) : 0 ≤ numAt s i ∧ numAt s i ≤ 4294967295 := by
  have h0 := bt_range s i; have h1 := bt_range s (i + 1); have h2 := bt_range s (i + 2); have h3 := bt_range s (i + 3)
  unfold numAt; omega
theorem refNumber_spec (s : ByteArray) (i : Int) (h0 : 0 ≤ i) (h1 : i + 3 < s.size) (hs : s.size ≤ 140737488351232) : armadaref03_number.f s i = some (numAt s i) := by
  have b0 := bt_range s i; have b1 := bt_range s (i + 1); have b2 := bt_range s (i + 2); have b3 := bt_range s (i + 3)
  unfold armadaref03_number.f
  rw [w64 (x := i + 1) (by omega) (by omega), w64 (x := i + 2) (by omega) (by omega), w64 (x := i + 3) (by omega) (by omega),
    if_pos (by omega), if_pos (by omega), if_pos (by omega), if_pos (by omega), if_pos (by omega), if_pos (by omega), if_pos (by omega), if_pos (by omega),
    w64 (x := bt s i) (by omega) (by omega), w64 (x := bt s (i + 1)) (by omega) (by omega), w64 (x := bt s (i + 2)) (by omega) (by omega), w64 (x := bt s (i + 3)) (by omega) (by omega),
    w64 (x := 16777216 * bt s i) (by omega) (by omega), w64 (x := 65536 * bt s (i + 1)) (by omega) (by omega), w64 (x := 256 * bt s (i + 2)) (by omega) (by omega),
    w64 (x := 16777216 * bt s i + 65536 * bt s (i + 1)) (by omega) (by omega), w64 (x := 16777216 * bt s i + 65536 * bt s (i + 1) + 256 * bt s (i + 2)) (by omega) (by omega), w64 (by omega) (by omega)]
  rfl
theorem or_byte (x y : Int) (h0 : 0 ≤ x) (h1 : x < 281474976710656) (h2 : 0 ≤ y) (h3 : y ≤ 255) : Go.bits .or .i64 (wrap64 (x * 256)) (wrap64 y) = x * 256 + y := by
  rw [w64 (x := x * 256) (by omega) (by omega), w64 (x := y) (by omega) (by omega)]
  exact bits_join .i64 63 (by decide) (fun n h0 h1 => by rw [IntKind.wrap_i64]; omega) 8 (x * 256) y (by omega) (by omega) (by omega) h2 (by omega) (by omega)
theorem number_spec (s : ByteArray) (i : Int) (h0 : 0 ≤ i) (h1 : 2 + 4 * i + 3 < s.size) (hs : s.size ≤ 140737488351232) (k : Nat) (hk : 5 ≤ k) : rec_number.f k s i = some (numAt s (2 + 4 * i)) := by
  obtain ⟨k, rfl⟩ : ∃ m, k = m + 5 := ⟨k - 5, by omega⟩
  have b0 := bt_range s (2 + 4 * i); have b1 := bt_range s (2 + 4 * i + 1); have b2 := bt_range s (2 + 4 * i + 2); have b3 := bt_range s (2 + 4 * i + 3)
  have e0 : wrap64 (wrap64 (2 + wrap64 (4 * i)) + 0) = 2 + 4 * i := by rw [w64 (x := 4 * i) (by omega) (by omega), w64 (x := 2 + 4 * i) (by omega) (by omega), w64 (by omega) (by omega)]; omega
  have e1 : wrap64 (wrap64 (2 + wrap64 (4 * i)) + 1) = 2 + 4 * i + 1 := by rw [w64 (x := 4 * i) (by omega) (by omega), w64 (x := 2 + 4 * i) (by omega) (by omega), w64 (by omega) (by omega)]
  have e2 : wrap64 (wrap64 (2 + wrap64 (4 * i)) + 2) = 2 + 4 * i + 2 := by rw [w64 (x := 4 * i) (by omega) (by omega), w64 (x := 2 + 4 * i) (by omega) (by omega), w64 (by omega) (by omega)]
  have e3 : wrap64 (wrap64 (2 + wrap64 (4 * i)) + 3) = 2 + 4 * i + 3 := by rw [w64 (x := 4 * i) (by omega) (by omega), w64 (x := 2 + 4 * i) (by omega) (by omega), w64 (by omega) (by omega)]
  have w1 : wrap64 (0 + 1) = 1 := w64 (by omega) (by omega)
  have w2 : wrap64 (1 + 1) = 2 := w64 (by omega) (by omega)
  have w3 : wrap64 (2 + 1) = 3 := w64 (by omega) (by omega)
  have w4 : wrap64 (3 + 1) = 4 := w64 (by omega) (by omega)
  unfold rec_number.f
  simp only [rec_number.l0, e0, e1, e2, e3, w1, w2, w3, w4]
  rw [if_pos (by omega), if_pos (by omega), if_pos (by omega), if_pos (by omega), if_pos (by omega), if_pos (by omega), if_pos (by omega), if_pos (by omega), if_pos (by omega), if_pos (by omega), if_pos (by omega), if_pos (by omega), if_neg (by omega),
    or_byte 0 _ (by omega) (by omega) b0.1 b0.2, or_byte _ _ (by omega) (by omega) b1.1 b1.2, or_byte _ _ (by omega) (by omega) b2.1 b2.2, or_byte _ _ (by omega) (by omega) b3.1 b3.2]
  congr 1
  unfold numAt
  omega
/-- Is a text a head's? -/
def isHead (s : ByteArray) : Prop := s.size = 32 ∧ mayP (bt s 1) (numAt s 2) (numAt s 6) (numAt s 10) (numAt s 14) ∧ (headT (bt s 1) (numAt s 2) (numAt s 6) (numAt s 10) (numAt s 14)).toList = s.toList
instance (s : ByteArray) : Decidable (isHead s) := by unfold isHead; infer_instance
def readP (s : ByteArray) : Int × Int × Int × Int × Int × Bool := if isHead s then (bt s 1, numAt s 2, numAt s 6, numAt s 10, numAt s 14, true) else (0, 0, 0, 0, 0, false)
theorem wrap_bt (s : ByteArray) (i : Int) : wrap64 (bt s i) = bt s i := by have := bt_range s i; exact w64 (by omega) (by omega)
theorem I64_num (s : ByteArray) (i : Int) : I64 (numAt s i) := by have := numAt_range s i; unfold I64; omega
theorem Read_spec (s : ByteArray) (k : Nat) (hk : 5 ≤ k) : rec_Read.f k s = some (readP s) := by
  unfold rec_Read.f readP
  by_cases h : (s.size : Int) = 32
  · have hs : s.size = 32 := by omega
    rw [if_pos h, if_pos (by omega), number_spec s 0 (by omega) (by omega) (by omega) k hk, number_spec s 1 (by omega) (by omega) (by omega) k hk, number_spec s 2 (by omega) (by omega) (by omega) k hk, number_spec s 3 (by omega) (by omega) (by omega) k hk]
    simp only [Option.bind_some, wrap_bt]
    show (rec_Head_Text.f k (bt s 1) (numAt s 2) (numAt s 6) (numAt s 10) (numAt s 14)).bind _ = _
    rw [Text_spec _ _ _ _ _ (I64_num s 14) k hk]
    simp only [Option.bind_some]
    by_cases hm : mayP (bt s 1) (numAt s 2) (numAt s 6) (numAt s 10) (numAt s 14)
    · rw [if_pos hm, if_pos rfl]
      by_cases he : (headT (bt s 1) (numAt s 2) (numAt s 6) (numAt s 10) (numAt s 14)).toList = s.toList
      · rw [if_pos he, if_pos ⟨hs, hm, he⟩]; rfl
      · rw [if_neg he, if_neg (fun x => he x.2.2)]
    · rw [if_neg hm, if_neg (by simp), if_neg (fun x => hm x.2.1)]
  · rw [if_neg h, if_neg (fun x => h (by rw [x.1]; rfl))]
end Go.Proofs.Ytajgpmeilpjadaa.Pl
