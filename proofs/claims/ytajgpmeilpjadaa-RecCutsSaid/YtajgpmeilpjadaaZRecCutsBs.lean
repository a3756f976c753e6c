/- Plain lemmas on the bytes of a string and on 64-bit wrapping: no program in sight. -/
import Derived.Test.YtajgpmeilpjadaaZRecCutsWWords
set_option linter.unusedVariables false
set_option linter.unusedSimpArgs false
namespace Go.Proofs.Ytajgpmeilpjadaa.Pl
open Go.RowKit Go.Proofs.YtajgpmeilpjadaaW.PrintWords
theorem w64 {x : Int} (h1 : -9223372036854775808 ≤ x) (h2 : x ≤ 9223372036854775807) : wrap64 x = x := by unfold wrap64; omega
theorem tdiv_pos {x : Int} (h : 0 ≤ x) (m : Int) : Int.tdiv x m = x / m := Int.tdiv_eq_ediv_of_nonneg h
/-- A string's bytes as numbers. -/
def bs (s : ByteArray) : List Int := s.data.toList.map (fun c => (c.toNat : Int))
theorem bs_append (a b : ByteArray) : bs (a ++ b) = bs a ++ bs b := by simp [bs]
theorem bs_inj {a b : ByteArray} (h : bs a = bs b) : a = b := by
  have : a.data.toList = b.data.toList := by
    simp only [bs] at h
    refine List.map_inj_right (f := fun c : UInt8 => (c.toNat : Int)) ?_ |>.1 h
    intro x y hxy
    exact UInt8.toNat_inj.1 (by omega)
  cases a; cases b
  congr
  exact Array.toList_inj.1 this
end Go.Proofs.Ytajgpmeilpjadaa.Pl
