/- Plain lemmas on the bytes of a string and on 64-bit wrapping: no program in sight. -/
import Derived.Test.YtajgpmeilpjadaaZRecLongWWords
set_option linter.unusedVariables false
set_option linter.unusedSimpArgs false
namespace Go.Proofs.Ytajgpmeilpjadaa.Pl
open Go.RowKit Go.Proofs.YtajgpmeilpjadaaW.PrintWords
theorem w64 {x : Int} (h1 : -9223372036854775808 ≤ x) (h2 : x ≤ 9223372036854775807) : wrap64 x = x := by unfold wrap64; omega
theorem tdiv_pos {x : Int} (h : 0 ≤ x) (m : Int) : Int.tdiv x m = x / m := Int.tdiv_eq_ediv_of_nonneg h
/-- A string's bytes as numbers. -/
def bs (s : ByteArray) : List Int := s.data.toList.map (fun c => (c.toNat : Int))
theorem bs_length (s : ByteArray) : (bs s).length = s.size := by simp [bs]
theorem bs_append (a b : ByteArray) : bs (a ++ b) = bs a ++ bs b := by simp [bs]
theorem bt_bs (s : ByteArray) (i : Nat) (h : i < s.size) : bt s (i : Int) = (bs s)[i]'(by rw [bs_length]; exact h) := by
  have e : (i : Int).toNat = i := rfl
  unfold bt
  rw [dif_pos (by rw [e]; exact h)]
  simp only [bs, List.getElem_map, Array.getElem_toList]
  rfl
end Go.Proofs.Ytajgpmeilpjadaa.Pl
