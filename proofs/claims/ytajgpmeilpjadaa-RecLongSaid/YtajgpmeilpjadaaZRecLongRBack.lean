/- rec: a payload's sectors hold it; a head's text is read as that head; neither is the other. -/
import Derived.Test.YtajgpmeilpjadaaZRecLongRJoin
set_option linter.unusedVariables false
set_option linter.unusedSimpArgs false
namespace Go.Proofs.Ytajgpmeilpjadaa.Pl
set_option linter.unusedSimpArgs false
open Go.RowKit Go.Proofs.Ytajgpmeilpjadaa.P Go.Proofs.YtajgpmeilpjadaaW.PrintWords Go.Proofs.YtajgpmeilpjadaaW.PrintLast Go.Proofs.YtajgpmeilpjadaaW.PrintMore
theorem chunk_eq (s : ByteArray) (i : Nat) : chunk s i = D1 ++ (s.extract (31 * i) (31 * i + 31) ++ zerosB (31 - min 31 (s.size - 31 * i))) := by
  unfold chunk fillB
  rw [ByteArray.append_assoc, ByteArray.size_append, D1_size, part_size]
  congr 3
  omega
theorem bs_chunk (s : ByteArray) (i : Nat) : ∃ r, bs (chunk s i) = 68 :: r := by
  rw [chunk_eq, bs_append]
  exact ⟨_, rfl⟩
theorem bt_first {s : ByteArray} {c : Int} {r : List Int} (h : bs s = c :: r) : bt s 0 = c := by
  have hl : 0 < s.size := by rw [← bs_length, h]; simp
  have := bt_bs s 0 hl
  rw [show ((0 : Nat) : Int) = 0 from rfl] at this
  rw [this]
  simp only [h, List.getElem_cons_zero]
theorem chunk_first (s : ByteArray) (i : Nat) : bt (chunk s i) 0 = 68 := by
  obtain ⟨r, h⟩ := bs_chunk s i
  exact bt_first h
end Go.Proofs.Ytajgpmeilpjadaa.Pl
