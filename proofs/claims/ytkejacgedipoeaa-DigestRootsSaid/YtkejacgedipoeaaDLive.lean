/- digest's own answers that the law names, and bytes of a text by its numbers. -/
import Derived.Test.YtkejacgedipoeaaPx27
namespace Go.Proofs.Ytkejacgedipoeaa.P
open Go.RowKit Go.Proofs.YtkejacgedipoeaaW.PrintWords Go.Proofs.YtkejacgedipoeaaW.PrintLast Go.Proofs.YtkejacgedipoeaaW.PrintMore Go.Proofs.Ytkejacgedipoeaa.Pl
set_option maxRecDepth 1000000 in
theorem live_true : armadalaw12_live.f = some true := by decide +kernel
theorem live_bind : (armadalaw12_live.f.bind fun t => some t) = some true := by rw [live_true, Option.bind_some]
theorem bt_nums (l : List Int) (h : ∀ c ∈ l, 0 ≤ c ∧ c ≤ 255) (i : Nat) (hi : i < l.length) : bt (strOfNums l) (i : Int) = l.getD i 0 := by
  rw [bt_bs _ i (by rw [strOfNums_size]; exact hi), List.getD_eq_getElem?_getD, List.getElem?_eq_getElem hi]
  simp only [bs_strOfNums l h, Option.getD_some]
end Go.Proofs.Ytkejacgedipoeaa.P
