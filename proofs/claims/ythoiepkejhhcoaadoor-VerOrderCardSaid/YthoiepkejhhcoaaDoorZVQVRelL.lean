/- ver: facts on releases. -/
import Derived.Test.YthoiepkejhhcoaaDoorZVQVMaxL
import Derived.Test.YthoiepkejhhcoaaDoorZVQVBumpZ
set_option linter.unusedVariables false
set_option linter.unusedSimpArgs false
namespace Go.Proofs.YthoiepkejhhcoaaDoor.P
open Go.RowKit Go.Proofs.YthoiepkejhhcoaaDoorW.PrintWords Go.Proofs.YthoiepkejhhcoaaDoorW.PrintLast Go.Proofs.YthoiepkejhhcoaaDoorW.PrintMore
def outB (z : Int × Int × Int × Int) : Int × Int × Int × ByteArray × ByteArray × Int := (z.1, z.2.1, z.2.2.1, ⟨#[]⟩, ⟨#[]⟩, z.2.2.2)
theorem num_iff {n : Int} : numB n = true ↔ 0 ≤ n ∧ n ≤ 999999999 := by unfold numB; rw [Bool.and_eq_true, decide_eq_true_eq, decide_eq_true_eq]
theorem check_rel (a b c : Int) : checkB a b c ⟨#[]⟩ ⟨#[]⟩ = true ↔ numB a = true ∧ numB b = true ∧ numB c = true := by
  have e : checkB a b c ⟨#[]⟩ ⟨#[]⟩ = (numB a && (numB b && (numB c && true))) := rfl
  rw [e, Bool.and_true, Bool.and_eq_true, Bool.and_eq_true]
theorem pre_up (p : ByteArray) : preZ ⟨#[]⟩ p > 0 ↔ p.size ≠ 0 := by
  unfold preZ
  have e0 : (⟨#[]⟩ : ByteArray).toList = ([] : List UInt8) := (toList_nil _).2 rfl
  by_cases h : p.size = 0
  · rw [if_pos (e0.trans ((toList_nil p).2 h).symm)]; omega
  · have : ¬ (⟨#[]⟩ : ByteArray).toList = p.toList := fun e => h ((toList_nil p).1 (e.symm.trans e0))
    have z : (⟨#[]⟩ : ByteArray).size = 0 := rfl
    rw [if_neg this, if_pos z]; exact ⟨fun _ => h, fun _ => by omega⟩
theorem bump_out (a b c : Int) (p q : ByteArray) (l : Int) (hp : p.size ≤ 1000000 ∧ q.size ≤ 1000000) : ver_Bump.f a b c p q l = some (outB (bumpZ a b c p q l)) := by
  unfold ver_Bump.f
  rw [if_pos hp]; rfl
end Go.Proofs.YthoiepkejhhcoaaDoor.P
