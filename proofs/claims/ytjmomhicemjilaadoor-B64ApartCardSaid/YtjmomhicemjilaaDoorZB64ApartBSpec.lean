/- What the program's Encode and Decode come to, on lists of numbers. -/
import Derived.Test.YtjmomhicemjilaaDoorZB64ApartBPlain
namespace Go.Proofs.YtjmomhicemjilaaDoor.Pl
set_option linter.unusedSimpArgs false
set_option linter.unusedVariables false
open Go.RowKit Go.Proofs.YtjmomhicemjilaaDoor.P Go.Proofs.YtjmomhicemjilaaDoorW.PrintWords Go.Proofs.YtjmomhicemjilaaDoorW.PrintLast Go.Proofs.YtjmomhicemjilaaDoorW.PrintMore
theorem bs_extract (s : ByteArray) (a b : Nat) : bs (s.extract a b) = ((bs s).take b).drop a := by
  unfold bs
  rw [ByteArray.data_extract, Array.toList_extract, List.extract_eq_take_drop, List.map_take, List.map_drop, List.drop_take]
theorem sgn0 (n : Int) : sgn n 0 = S (n / 262144 % 64) := rfl
theorem sgn1 (n : Int) : sgn n 1 = S (n / 4096 % 64) := rfl
theorem sgn2 (n : Int) : sgn n 2 = S (n / 64 % 64) := rfl
theorem sgn3 (n : Int) : sgn n 3 = S (n / 1 % 64) := rfl
theorem bs_one (x : ByteArray) (h : x.size = 1) : bs x = [bt x 0] := by
  have := bs_drop x 0 (by omega)
  rw [List.drop_zero, List.drop_of_length_le (by rw [bs_length]; omega)] at this
  exact this
theorem bs_two (x : ByteArray) (h : x.size = 2) : bs x = [bt x 0, bt x 1] := by
  have := bs_drop x 0 (by omega)
  rw [List.drop_zero, bs_drop x (0 + 1) (by omega), List.drop_of_length_le (by rw [bs_length]; omega)] at this
  exact this
theorem bs_three (x : ByteArray) (h : x.size = 3) : bs x = [bt x 0, bt x 1, bt x 2] := by
  have := bs_drop x 0 (by omega)
  rw [List.drop_zero, bs_drop x (0 + 1) (by omega), bs_drop x (0 + 1 + 1) (by omega), List.drop_of_length_le (by rw [bs_length]; omega)] at this
  exact this
theorem grpL_enc (x : ByteArray) (h1 : 1 ≤ x.size) (h3 : x.size ≤ 3) : grpL x = encP (bs x) := by
  have r0 := bt_range x 0; have r1 := bt_range x 1; have r2 := bt_range x 2
  unfold grpL
  by_cases c3 : x.size = 3
  · rw [if_pos c3, bs_three x c3, sgn0, sgn1, sgn2, sgn3]
    show _ = [S (bt x 0 / 4), S (bt x 0 % 4 * 16 + bt x 1 / 16), S (bt x 1 % 16 * 4 + bt x 2 / 64), S (bt x 2 % 64)]
    rw [show (bt x 2 + bt x 1 * 256 + bt x 0 * 65536) / 262144 % 64 = bt x 0 / 4 by omega, show (bt x 2 + bt x 1 * 256 + bt x 0 * 65536) / 4096 % 64 = bt x 0 % 4 * 16 + bt x 1 / 16 by omega, show (bt x 2 + bt x 1 * 256) / 64 % 64 = bt x 1 % 16 * 4 + bt x 2 / 64 by omega, show bt x 2 / 1 % 64 = bt x 2 % 64 by omega]
  · rw [if_neg c3]
    by_cases c2 : x.size = 2
    · rw [if_pos c2, bs_two x c2, sgn0, sgn1, sgn2]
      show _ = [S (bt x 0 / 4), S (bt x 0 % 4 * 16 + bt x 1 / 16), S (bt x 1 % 16 * 4), 61]
      rw [show (bt x 1 * 256 + bt x 0 * 65536) / 262144 % 64 = bt x 0 / 4 by omega, show (bt x 1 * 256 + bt x 0 * 65536) / 4096 % 64 = bt x 0 % 4 * 16 + bt x 1 / 16 by omega, show bt x 1 * 256 / 64 % 64 = bt x 1 % 16 * 4 by omega]
    · rw [if_neg c2, bs_one x (by omega), sgn0, sgn1]
      show _ = [S (bt x 0 / 4), S (bt x 0 % 4 * 16), 61, 61]
      rw [show bt x 0 * 65536 / 262144 % 64 = bt x 0 / 4 by omega, show bt x 0 * 65536 / 4096 % 64 = bt x 0 % 4 * 16 by omega]
theorem bs_grpB (x : ByteArray) (h1 : 1 ≤ x.size) (h3 : x.size ≤ 3) : bs (grpB x) = encP (bs x) := by
  unfold grpB
  rw [grpL_enc x h1 h3]
  exact bs_strOfNums _ (encP_InB _ (bs_range x))
theorem bs_encTo (s : ByteArray) (i : Nat) (hi : i ≤ encN s.size) : bs (encTo s i) = encP ((bs s).take (3 * i)) := by
  induction i with
  | zero => rfl
  | succ i ih =>
    have hlt : 3 * i < s.size := by unfold encN at hi; omega
    have hsz : (s.extract (3 * i) (3 * i + 3)).size = min 3 (s.size - 3 * i) := by rw [ByteArray.size_extract]; omega
    rw [encTo, bs_append, ih (by omega), bs_grpB _ (by rw [hsz]; omega) (by rw [hsz]; omega), bs_extract, ← encP_append _ _ (by rw [List.length_take, bs_length]; omega)]
    congr 1
    have : (bs s).take (3 * i) = ((bs s).take (3 * i + 3)).take (3 * i) := by rw [List.take_take]; congr 1; omega
    rw [this, List.take_append_drop, Nat.mul_add]
theorem Encode_spec (s : ByteArray) (h : s.size ≤ 70000000000000) : ∃ e, b64_Encode.f s = some e ∧ bs e = encP (bs s) ∧ e.size = 4 * ((s.size + 2) / 3) := by
  refine ⟨encTo s (encN s.size), by unfold b64_Encode.f; rw [if_pos h], ?_, encTo_size _ _⟩
  rw [bs_encTo s _ (Nat.le_refl _), List.take_of_length_le (by rw [bs_length]; unfold encN; omega)]
end Go.Proofs.YtjmomhicemjilaaDoor.Pl
