/- lex: the law's own blank. -/
import Derived.Test.YtonjofjdmlblfaaDoorZLexStandsM0
import Derived.Test.YtonjofjdmlblfaaDoorZLexStandsXStands
set_option linter.unusedVariables false
set_option linter.unusedSimpArgs false
namespace Go.Proofs.YtonjofjdmlblfaaDoor.P
open Go.RowKit Go.Proofs.YtonjofjdmlblfaaDoorW.PrintWords Go.Proofs.YtonjofjdmlblfaaDoorW.PrintLast Go.Proofs.YtonjofjdmlblfaaDoorW.PrintMore
theorem bt_ext (s : ByteArray) (p a j : Nat) (ha : a ≤ s.size) (hj : p + j < a) : bt (s.extract p a) (j : Int) = bt s ((p + j : Nat) : Int) := by
  have h1 : j < (s.extract p a).size := by rw [ByteArray.size_extract]; omega
  rw [bt_nat _ j h1, bt_nat s (p + j) (by omega), ByteArray.getElem_extract]
theorem blank_l0 (t : ByteArray) (ht : t.size ≤ 1000000) (hb : ∀ j : Nat, j < t.size → blC (bt t (j : Int)) = true) : ∀ (n j k : Nat), n + j = t.size → n + 1 ≤ k → armadalaw09_blank.l0 k t (j : Int) = some true
  | 0, j, k + 1, hn, _ => by rw [armadalaw09_blank.l0, if_neg (by omega)]
  | n + 1, j, k + 1, hn, hk => by
    have e1 : wrap64 ((j : Int) + 1) = ((j + 1 : Nat) : Int) := by rw [w64 (by omega) (by omega)]; omega
    rw [armadalaw09_blank.l0, if_pos (by omega), if_pos (by omega), blank_f, e1]
    simp only [Option.bind_some]
    rw [if_pos (hb j (by omega))]
    exact blank_l0 t ht hb n (j + 1) k (by omega) (by omega)
theorem blank_ext (s : ByteArray) (hs : s.size ≤ 1000000) (p a k : Nat) (ha : a ≤ s.size) (hb : blanks s p a) (hk : s.size + 1 ≤ k) : armadalaw09_blank.f k (s.extract p a) = some true := by
  have hz : (s.extract p a).size = a - p := by rw [ByteArray.size_extract]; omega
  unfold armadalaw09_blank.f
  refine blank_l0 (s.extract p a) (by omega) (fun j hj => ?_) (s.extract p a).size 0 k (by omega) (by omega)
  rw [bt_ext s p a j ha (by omega)]
  exact hb _ (by omega) (by omega)
end Go.Proofs.YtonjofjdmlblfaaDoor.P
