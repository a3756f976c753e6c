/- VerBack: a version that may be is parsed of its text; a text that is one is that of what is parsed. -/
import Derived.Test.YthoiepkejhhcoaaDoorZVKM5
import Derived.Test.YthoiepkejhhcoaaDoorZVKVBackL
import Derived.Test.YthoiepkejhhcoaaDoorZVKVLive
set_option linter.unusedVariables false
set_option linter.unusedSimpArgs false
namespace Go.Proofs.YthoiepkejhhcoaaDoor.Pure
open Go.RowKit Go.Proofs.YthoiepkejhhcoaaDoor.P Go.Proofs.YthoiepkejhhcoaaDoorW.PrintWords Go.Proofs.YthoiepkejhhcoaaDoorW.PrintLast Go.Proofs.YthoiepkejhhcoaaDoorW.PrintMore
theorem back_j1 (s : ByteArray) (hs : s.size ≤ 1000000) (k : Nat) (hk : 31 ≤ k) : armadalaw07_VerBack.j1 k s false = some true := by
  obtain ⟨k, rfl⟩ : ∃ k', k = k' + 1 := ⟨k - 1, by omega⟩
  have hp : ver_Parse.f s = some (parseZ s) := by unfold ver_Parse.f; rw [if_pos hs]
  rw [armadalaw07_VerBack.j1, if_neg (by simp), hp]
  simp only [Option.bind_some]
  generalize hz : parseZ s = z
  obtain ⟨a, b, c, p, q, is⟩ := z
  dsimp only
  cases is with
  | false => rw [if_neg (by simp), live_true (by omega)]; rfl
  | true =>
    obtain ⟨h1, h2⟩ := parse_true hz
    obtain ⟨_, _, _, s1, s2⟩ := check_nums h1
    have hc : ver_Check.f a b c p q = some true := by unfold ver_Check.f; rw [if_pos ⟨by omega, by omega⟩, h1]
    rw [if_pos rfl, hc]
    simp only [Option.bind_some]
    rw [if_pos trivial, text_f a b c p q (by omega) (by omega)]
    simp only [Option.bind_some]
    rw [if_pos (by rw [h2]), live_true (by omega)]; rfl
theorem VerBack (a b c : Int) (p q s : ByteArray) : armadalaw07_VerBack.f 40 a b c p q s = some true := by
  have big : armadalaw07_VerBack.j0 40 s true a b c p q = some true := by
    rw [armadalaw07_VerBack.j0, if_pos rfl, live_true (by omega)]; rfl
  unfold armadalaw07_VerBack.f
  by_cases c1 : (p.size : Int) > 200
  · rw [if_pos c1]; exact big
  · rw [if_neg c1]
    by_cases c2 : (q.size : Int) > 200
    · rw [if_pos c2]; exact big
    · rw [if_neg c2]
      by_cases c3 : (s.size : Int) > 200
      · rw [decide_eq_true c3]; exact big
      · have hp : ver_Parse.f (textZ a b c p q) = some (parseZ (textZ a b c p q)) := by unfold ver_Parse.f; rw [if_pos (text_size a b c p q)]
        have hc : ver_Check.f a b c p q = some (checkB a b c p q) := by unfold ver_Check.f; rw [if_pos ⟨by omega, by omega⟩]
        rw [decide_eq_false c3, armadalaw07_VerBack.j0, if_neg (by simp), text_f a b c p q (by omega) (by omega)]
        simp only [Option.bind_some]
        rw [hp]
        simp only [Option.bind_some]
        rw [hc]
        simp only [Option.bind_some]
        have J := back_j1 s (by omega) 39 (by omega)
        by_cases h : checkB a b c p q = true
        · rw [parse_text a b c p q h, h]
          dsimp only
          rw [if_neg (by simp), if_pos rfl]
          have e : (!(a == a) || (!(b == b) || (!(c == c) || (!(p.toList == p.toList) || !(q.toList == q.toList))))) = false := by simp
          rw [e]; exact J
        · have ht : textZ a b c p q = ⟨#[]⟩ := by unfold textZ; rw [if_neg h]
          rw [ht, parse_emp, Bool.eq_false_iff.2 h]
          unfold noV
          dsimp only
          rw [if_neg (by simp), if_neg (by simp)]; exact J
end Go.Proofs.YthoiepkejhhcoaaDoor.Pure
