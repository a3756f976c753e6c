/- VerTells: whether a version may be, its text, and the version of any text are the document's. -/
import Derived.Test.YthoiepkejhhcoaaDoorZVTM6
import Derived.Test.YthoiepkejhhcoaaDoorZVTVParR
import Derived.Test.YthoiepkejhhcoaaDoorZVTVLive
set_option linter.unusedVariables false
set_option linter.unusedSimpArgs false
namespace Go.Proofs.YthoiepkejhhcoaaDoor.Pure
open Go.RowKit Go.Proofs.YthoiepkejhhcoaaDoor.P Go.Proofs.YthoiepkejhhcoaaDoorW.PrintWords Go.Proofs.YthoiepkejhhcoaaDoorW.PrintLast Go.Proofs.YthoiepkejhhcoaaDoorW.PrintMore
theorem VerTells (a b c : Int) (p q s : ByteArray) : ∃ k, armadalaw07_VerTells.f k a b c p q s = some true := by
  obtain ⟨K, hK⟩ : ∃ K : Nat, K = 4003000 := ⟨_, rfl⟩
  refine ⟨K + 1, ?_⟩
  have big : armadalaw07_VerTells.j0 (K + 1) s true a b c p q = some true := by
    rw [armadalaw07_VerTells.j0, if_pos rfl, live_true (by omega)]; rfl
  unfold armadalaw07_VerTells.f
  by_cases c1 : (p.size : Int) > 200
  · rw [if_pos c1]; exact big
  · rw [if_neg c1]
    by_cases c2 : (q.size : Int) > 200
    · rw [if_pos c2]; exact big
    · rw [if_neg c2]
      by_cases c3 : (s.size : Int) > 200
      · rw [decide_eq_true c3]; exact big
      · have hp : ver_Parse.f s = some (parseZ s) := by unfold ver_Parse.f; rw [if_pos (by omega)]
        have hc : ver_Check.f a b c p q = some (checkB a b c p q) := by unfold ver_Check.f; rw [if_pos ⟨by omega, by omega⟩]
        rw [decide_eq_false c3, armadalaw07_VerTells.j0, if_neg (by simp), hp, rparse_f s K (by omega), hc, rcheck_f a b c p q K (by omega), text_f a b c p q (by omega) (by omega), rtext_f a b c p q K (by omega)]
        simp only [Option.bind_some]
        rw [if_pos (by simp), if_pos trivial, if_pos (by simp), if_pos (by simp), live_true (by omega)]; rfl
end Go.Proofs.YthoiepkejhhcoaaDoor.Pure
