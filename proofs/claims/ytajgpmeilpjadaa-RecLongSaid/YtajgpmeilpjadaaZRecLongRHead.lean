/- rec's heads: what Text, Read and Make come to, of the program and of the document: the same. -/
import Derived.Test.YtajgpmeilpjadaaZRecLongM0
import Derived.Test.YtajgpmeilpjadaaZRecLongBs
import Derived.Test.YtajgpmeilpjadaaZRecLongM2
import Derived.Laws.BitsLemmas
set_option linter.unusedVariables false
set_option linter.unusedSimpArgs false
namespace Go.Proofs.Ytajgpmeilpjadaa.Pl
set_option linter.unusedSimpArgs false
open Go.RowKit Go.Proofs.Ytajgpmeilpjadaa.P Go.Proofs.YtajgpmeilpjadaaW.PrintWords Go.Proofs.YtajgpmeilpjadaaW.PrintLast Go.Proofs.YtajgpmeilpjadaaW.PrintMore
def okSum (e : Int) : Prop := 0 ≤ e ∧ e / 65536 < 65521 ∧ e % 65536 < 65521
instance (e : Int) : Decidable (okSum e) := by unfold okSum; infer_instance
def mayP (a b c d e : Int) : Prop := (1 ≤ a ∧ a ≤ 2) ∧ (0 ≤ b ∧ b ≤ 1073741824) ∧ (0 ≤ c ∧ c ≤ 65535) ∧ (0 ≤ d ∧ d ≤ 4096) ∧ okSum e
instance (a b c d e : Int) : Decidable (mayP a b c d e) := by unfold mayP; infer_instance
theorem in_spec (a b c : Int) : rec_in.f a b c = some (decide (b ≤ a ∧ a ≤ c)) := by
  unfold rec_in.f
  by_cases h : a ≥ b
  · rw [if_pos h]; congr 1; exact decide_eq_decide.2 ⟨fun x => ⟨h, x⟩, fun x => x.2⟩
  · rw [if_neg h]; congr 1; symm; exact decide_eq_false (fun x => h x.1)
def fourL (n : Int) : List Int := [n / 16777216 % 256, n / 65536 % 256, n / 256 % 256, n % 256]
def headL (a b c d e : Int) : List Int := 72 :: a % 256 :: (fourL b ++ fourL c ++ fourL d ++ fourL e ++ List.replicate 14 0)
def headT (a b c d e : Int) : ByteArray := strOfNums (headL a b c d e)
theorem filled_spec (s : ByteArray) (h : s.size ≤ 32) : rec_filled.f s = some (s ++ zerosB (32 - s.size)) := by unfold rec_filled.f; rw [if_pos h]
def numAt (s : ByteArray) (i : Int) : Int := 16777216 * bt s i + 65536 * bt s (i + 1) + 256 * bt s (i + 2) + bt s (i + 3)
/-- Is a text a head's? -/
def isHead (s : ByteArray) : Prop := s.size = 32 ∧ mayP (bt s 1) (numAt s 2) (numAt s 6) (numAt s 10) (numAt s 14) ∧ (headT (bt s 1) (numAt s 2) (numAt s 6) (numAt s 10) (numAt s 14)).toList = s.toList
instance (s : ByteArray) : Decidable (isHead s) := by unfold isHead; infer_instance
end Go.Proofs.Ytajgpmeilpjadaa.Pl
