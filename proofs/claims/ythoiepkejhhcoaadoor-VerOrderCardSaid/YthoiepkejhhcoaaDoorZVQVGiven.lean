/- ver: the library's contracts in the print's form: Itoa, Compare. -/
import Derived.Test.YthoiepkejhhcoaaDoorZVQVLaid
import Derived.Test.YthoiepkejhhcoaaDoorZVQM0
set_option linter.unusedVariables false
set_option linter.unusedSimpArgs false
namespace Go.Proofs.YthoiepkejhhcoaaDoor.P
open Go.RowKit Go.Proofs.YthoiepkejhhcoaaDoorW.PrintWords Go.Proofs.YthoiepkejhhcoaaDoorW.PrintLast Go.Proofs.YthoiepkejhhcoaaDoorW.PrintMore
theorem below_grown (w : World) (k : Nat) (os : Array Obj) : Below w.heap.size w (Sort.grow (w.drewN k) os) := by
  refine ⟨rfl, rfl, rfl, ?_, fun i hi => ?_⟩
  · simp [Sort.grow, World.drewN]
  · have h1 : (w.drewN k).heap = w.heap := rfl
    simp only [Sort.grow, h1]
    rw [Array.getElem?_append_left hi]
def strconv_Itoa.f (n : Int) : Option ByteArray := if -9223372036854775808 ≤ n ∧ n ≤ 9223372036854775807 then some ⟨(Lib.itoa n).toArray⟩ else none
theorem strconv_Itoa.calls (a0 : Int) (r : ByteArray) (w : World) (h : strconv_Itoa.f a0 = some r) (LW0 : LaidW w) :
    Calls Tryd.prog 36 #[.int .i64 a0] w fun e w' => e = .returned (.string r) ∧ Below w.heap.size w w' := by
  unfold strconv_Itoa.f at h
  by_cases c : -9223372036854775808 ≤ a0 ∧ a0 ≤ 9223372036854775807
  · rw [if_pos c] at h
    obtain rfl := Option.some.inj h
    refine (Tryd.strconv_Itoa a0 c.1 c.2 w LW0.tab).mono ?_
    rintro e w' ⟨rfl, k, os, rfl⟩
    exact ⟨rfl, below_grown w k os⟩
  · rw [if_neg c] at h; cases h
def strings_Compare.f (a b : ByteArray) : Option Int := some (Lib.compareBytes a.data.toList b.data.toList)
theorem strings_Compare.calls (a0 a1 : ByteArray) (r : Int) (w : World) (h : strings_Compare.f a0 a1 = some r) :
    Calls Tryd.prog 71 #[.string a0, .string a1] w fun e w' => e = .returned (.int .i64 r) ∧ Drawn0 w w' := by
  obtain rfl := Option.some.inj h
  refine (Tryd.strings_Compare a0 a1 w).mono ?_
  rintro e w' ⟨rfl, rfl⟩
  exact ⟨rfl, Drawn0.refl _⟩
end Go.Proofs.YthoiepkejhhcoaaDoor.P
