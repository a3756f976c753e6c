/- ver: what Compare, Bump and Max tell, plainly. -/
import Derived.Test.YthoiepkejhhcoaaDoorZVQM4
import Derived.Test.YthoiepkejhhcoaaDoorZVQVOrd
import Derived.Test.YthoiepkejhhcoaaDoorZVQVParse
set_option linter.unusedVariables false
set_option linter.unusedSimpArgs false
namespace Go.Proofs.YthoiepkejhhcoaaDoor.P
open Go.RowKit Go.Proofs.YthoiepkejhhcoaaDoorW.PrintWords Go.Proofs.YthoiepkejhhcoaaDoorW.PrintLast Go.Proofs.YthoiepkejhhcoaaDoorW.PrintMore
/-- Texts that are short enough to be read. -/
def Vr.lim (v : Vr) : Prop := v.p.size ≤ 1000000 ∧ v.q.size ≤ 1000000
theorem check_f (v : Vr) (h : v.lim) : ver_Check.f v.a v.b v.c v.p v.q = some v.ok := by
  unfold ver_Check.f
  rw [if_pos (show v.p.size ≤ 1000000 ∧ v.q.size ≤ 1000000 from h)]; rfl
theorem or_four (x y z t : Int) (k : Nat) (hk : 5 ≤ k) : cmp_Or_int.f k [x, y, z, t] = some (if x = 0 then (if y = 0 then (if z = 0 then t else z) else y) else x) := by
  obtain ⟨k, rfl⟩ : ∃ k', k = k' + 5 := ⟨k - 5, by omega⟩
  unfold cmp_Or_int.f
  have e0 : rd [x, y, z, t] 0 = x := rfl
  have e1 : rd [x, y, z, t] 1 = y := rfl
  have e2 : rd [x, y, z, t] 2 = z := rfl
  have e3 : rd [x, y, z, t] 3 = t := rfl
  have w0 : wrap64 (0 + 1) = 1 := by unfold wrap64; omega
  have w1 : wrap64 (1 + 1) = 2 := by unfold wrap64; omega
  have w2 : wrap64 (2 + 1) = 3 := by unfold wrap64; omega
  have w3 : wrap64 (3 + 1) = 4 := by unfold wrap64; omega
  have hl : (([x, y, z, t] : List Int).length : Int) = 4 := rfl
  rw [hl, cmp_Or_int.l0, hl, if_pos (by omega), if_pos (by omega), if_pos (by omega), e0, w0]
  by_cases c : x = 0
  · rw [if_pos c, if_pos c, cmp_Or_int.l0, hl, if_pos (by omega), if_pos (by omega), if_pos (by omega), e1, w1]
    by_cases c2 : y = 0
    · rw [if_pos c2, if_pos c2, cmp_Or_int.l0, hl, if_pos (by omega), if_pos (by omega), if_pos (by omega), e2, w2]
      by_cases c3 : z = 0
      · rw [if_pos c3, if_pos c3, cmp_Or_int.l0, hl, if_pos (by omega), if_pos (by omega), if_pos (by omega), e3, w3]
        by_cases c4 : t = 0
        · rw [if_pos c4, cmp_Or_int.l0, if_neg (by omega), c4]
        · rw [if_neg c4]
      · rw [if_neg c3, if_neg c3]
    · rw [if_neg c2, if_neg c2]
  · rw [if_neg c, if_neg c]
theorem compare_fz (x y : Vr) (hx : x.lim) (hy : y.lim) (k : Nat) (hk : 10 ≤ k) : ver_Compare.f k x.a x.b x.c x.p x.q y.a y.b y.c y.p y.q = some (compareZ x y) := by
  obtain ⟨k, rfl⟩ : ∃ k', k = k' + 1 := ⟨k - 1, by omega⟩
  unfold ver_Compare.f compareZ
  rw [check_f x hx, check_f y hy]
  simp only [Option.bind_some]
  by_cases h1 : x.ok = true
  · rw [if_pos h1, if_pos h1]
    by_cases h2 : y.ok = true
    · rw [if_pos h2, h2, ver_Compare.j0, if_neg (by simp), compare_f, compare_f, compare_f]
      simp only [Option.bind_some]
      unfold ver_byPre.f
      rw [if_pos ⟨hx.1, hy.1⟩]
      simp only [Option.bind_some]
      rw [or_four _ _ _ _ k (by omega)]
      rfl
    · rw [if_neg h2, Bool.eq_false_iff.2 h2, ver_Compare.j0, if_pos (by rfl)]
  · rw [if_neg h1, if_neg h1, ver_Compare.j0, if_pos rfl]
theorem compareZ_ok {x y : Vr} (h1 : x.ok = true) (h2 : y.ok = true) : compareZ x y = ordV x y := by unfold compareZ; rw [if_pos h1, if_pos h2]
end Go.Proofs.YthoiepkejhhcoaaDoor.P
