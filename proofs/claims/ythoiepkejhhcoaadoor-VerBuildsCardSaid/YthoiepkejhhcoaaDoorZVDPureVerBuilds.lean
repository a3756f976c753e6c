/- VerBuilds: Build is of no moment to the order, nor to a bump; a Pre stands ahead of its release. -/
import Derived.Test.YthoiepkejhhcoaaDoorZVDM6
import Derived.Test.YthoiepkejhhcoaaDoorZVDPureVerLine
set_option linter.unusedVariables false
set_option linter.unusedSimpArgs false
namespace Go.Proofs.YthoiepkejhhcoaaDoor.Pure
open Go.RowKit Go.Proofs.YthoiepkejhhcoaaDoor.P Go.Proofs.YthoiepkejhhcoaaDoorW.PrintWords Go.Proofs.YthoiepkejhhcoaaDoorW.PrintLast Go.Proofs.YthoiepkejhhcoaaDoorW.PrintMore
theorem checkB_noq {a b c : Int} {p q : ByteArray} (h : checkB a b c p q = true) : checkB a b c p ⟨#[]⟩ = true := by
  unfold checkB at h ⊢
  simp only [Bool.and_eq_true] at h ⊢
  obtain ⟨h1, h2, h3, h4, h5, h6, h7⟩ := h
  exact ⟨h1, h2, h3, h4, by rfl, h6, by rfl⟩
theorem checkB_nop {a b c : Int} {p q : ByteArray} (h : checkB a b c p q = true) : checkB a b c ⟨#[]⟩ q = true := by
  unfold checkB at h ⊢
  simp only [Bool.and_eq_true] at h ⊢
  obtain ⟨h1, h2, h3, h4, h5, h6, h7⟩ := h
  exact ⟨h1, h2, h3, by rfl, h5, by rfl, h7⟩
theorem bump_noq {a b c : Int} {p q : ByteArray} (l : Int) (h : checkB a b c p q = true) : bumpZ a b c p ⟨#[]⟩ l = bumpZ a b c p q l := by
  unfold bumpZ
  rw [h, checkB_noq h]
theorem e0 : (⟨#[]⟩ : ByteArray).toList = ([] : List UInt8) := (toList_nil _).2 rfl
theorem pre_rel (p : ByteArray) : preZ p ⟨#[]⟩ = if p.size = 0 then 0 else -1 := by
  unfold preZ
  by_cases h : p.size = 0
  · rw [if_pos (((toList_nil p).2 h).trans e0.symm), if_pos h]
  · have : ¬ p.toList = (⟨#[]⟩ : ByteArray).toList := fun e => h ((toList_nil p).1 (e.trans e0))
    have z : (⟨#[]⟩ : ByteArray).size = 0 := rfl
    rw [if_neg h, if_neg this, if_neg h, if_pos z]
theorem ord_rel (v : Vr) : ordV v ⟨v.a, v.b, v.c, ⟨#[]⟩, v.q⟩ = if v.p.size = 0 then 0 else -1 := by
  unfold ordV
  rw [if_pos (tot_int.self _), if_pos (tot_int.self _), if_pos (tot_int.self _)]
  exact pre_rel v.p
theorem VerBuilds (v w : Vr) (l : Int) (h1 : v.p.size ≤ 140737488351232) (h2 : w.p.size ≤ 140737488351232) (h4 : v.q.size ≤ 140737488351232) (h5 : w.q.size ≤ 140737488351232) :
    armadalaw07_VerBuilds.f 40 v.a v.b v.c v.p v.q w.a w.b w.c w.p w.q l = some true := by
  have L39 : armadalaw07_live.f 39 = some true := live_true (by omega)
  have L38 : armadalaw07_live.f 38 = some true := live_true (by omega)
  unfold armadalaw07_VerBuilds.f
  rw [w64 (x := (v.p.size : Int) + (v.q.size : Int)) (by omega) (by omega), w64 (x := (v.p.size : Int) + (v.q.size : Int) + (w.p.size : Int)) (by omega) (by omega), w64 (x := (v.p.size : Int) + (v.q.size : Int) + (w.p.size : Int) + (w.q.size : Int)) (by omega) (by omega)]
  by_cases big : (v.p.size : Int) + (v.q.size : Int) + (w.p.size : Int) + (w.q.size : Int) > 400
  · rw [if_pos big, armadalaw07_VerBuilds.j0, if_pos rfl, L39]; rfl
  · rw [if_neg big]
    have lv : v.lim := ⟨by omega, by omega⟩
    have lw : w.lim := ⟨by omega, by omega⟩
    rw [check_f v lv, check_f w lw]
    simp only [Option.bind_some]
    by_cases ov : v.ok = true
    · rw [if_pos ov]
      by_cases ow : w.ok = true
      · have la : Vr.lim ⟨v.a, v.b, v.c, v.p, ⟨#[]⟩⟩ := ⟨lv.1, by show (0 : Nat) ≤ _; omega⟩
        have lb : Vr.lim ⟨v.a, v.b, v.c, ⟨#[]⟩, v.q⟩ := ⟨by show (0 : Nat) ≤ _; omega, lv.2⟩
        have oa : Vr.ok ⟨v.a, v.b, v.c, v.p, ⟨#[]⟩⟩ = true := checkB_noq ov
        have ob : Vr.ok ⟨v.a, v.b, v.c, ⟨#[]⟩, v.q⟩ = true := checkB_nop ov
        have b1 : ver_Bump.f v.a v.b v.c v.p v.q l = some ((bumpZ v.a v.b v.c v.p v.q l).1, (bumpZ v.a v.b v.c v.p v.q l).2.1, (bumpZ v.a v.b v.c v.p v.q l).2.2.1, ⟨#[]⟩, ⟨#[]⟩, (bumpZ v.a v.b v.c v.p v.q l).2.2.2) := by
          unfold ver_Bump.f; rw [if_pos (show v.p.size ≤ 1000000 ∧ v.q.size ≤ 1000000 from lv)]
        have b2 : ver_Bump.f v.a v.b v.c v.p ⟨#[]⟩ l = some ((bumpZ v.a v.b v.c v.p v.q l).1, (bumpZ v.a v.b v.c v.p v.q l).2.1, (bumpZ v.a v.b v.c v.p v.q l).2.2.1, ⟨#[]⟩, ⟨#[]⟩, (bumpZ v.a v.b v.c v.p v.q l).2.2.2) := by
          unfold ver_Bump.f; rw [if_pos (show v.p.size ≤ 1000000 ∧ (⟨#[]⟩ : ByteArray).size ≤ 1000000 from la), bump_noq l ov]
        have c1 := compare_fz v w lv lw 38 (by omega)
        have c2 := compare_fz ⟨v.a, v.b, v.c, v.p, ⟨#[]⟩⟩ w la lw 38 (by omega)
        have c3 := compare_fz v ⟨v.a, v.b, v.c, ⟨#[]⟩, v.q⟩ lv lb 38 (by omega)
        have e12 : compareZ ⟨v.a, v.b, v.c, v.p, ⟨#[]⟩⟩ w = compareZ v w := by rw [compareZ_ok oa ow, compareZ_ok ov ow]; rfl
        have e3 := compareZ_ok ov ob
        rw [ord_rel] at e3
        rw [e12] at c2
        rw [e3] at c3
        rw [ow, armadalaw07_VerBuilds.j0, if_neg (by simp), b1, b2]
        generalize bumpZ v.a v.b v.c v.p v.q l = z
        simp only [Option.bind_some]
        by_cases hp : v.p.size = 0
        · rw [if_pos hp] at c3
          rw [if_pos ((toList_nil v.p).2 hp), armadalaw07_VerBuilds.j1, c1, c2, c3]
          simp only [Option.bind_some]
          simp [L38]
        · rw [if_neg hp] at c3
          rw [if_neg (fun e => hp ((toList_nil v.p).1 e)), armadalaw07_VerBuilds.j1, c1, c2, c3]
          simp only [Option.bind_some]
          simp [L38]
      · rw [Bool.eq_false_iff.2 ow, armadalaw07_VerBuilds.j0, if_pos (show (!false) = true by rfl), L39]; rfl
    · rw [if_neg ov, armadalaw07_VerBuilds.j0, if_pos rfl, L39]; rfl
end Go.Proofs.YthoiepkejhhcoaaDoor.Pure
