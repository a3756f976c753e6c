/- VerLine: the order is one order. -/
import Derived.Test.YthoiepkejhhcoaaDoorZVLM5
import Derived.Test.YthoiepkejhhcoaaDoorZVLVLive
import Derived.Test.YthoiepkejhhcoaaDoorZVLVLaws
set_option linter.unusedVariables false
set_option linter.unusedSimpArgs false
namespace Go.Proofs.YthoiepkejhhcoaaDoor.Pure
open Go.RowKit Go.Proofs.YthoiepkejhhcoaaDoor.P Go.Proofs.YthoiepkejhhcoaaDoorW.PrintWords Go.Proofs.YthoiepkejhhcoaaDoorW.PrintLast Go.Proofs.YthoiepkejhhcoaaDoorW.PrintMore
theorem w64 {x : Int} (h0 : -9223372036854775808 ≤ x) (h1 : x < 9223372036854775808) : wrap64 x = x := by unfold wrap64; omega
theorem lineTail (x : Int) (a b : Vr) (L : Option Bool) (hL : L = some true) (h : x = 0 ↔ (a.a = b.a ∧ a.b = b.b ∧ a.c = b.c ∧ a.p = b.p)) :
    (if a.a = b.a then (if a.b = b.b then (if a.c = b.c then (if ((x == 0) == (a.p.toList == b.p.toList)) = true then (L.bind fun t => (some t)) else (some false)) else (if ((x == 0) == false) = true then (L.bind fun t => (some t)) else (some false))) else (if ((x == 0) == false) = true then (L.bind fun t => (some t)) else (some false))) else (if ((x == 0) == false) = true then (L.bind fun t => (some t)) else (some false))) = some true := by
  subst hL
  have no : ¬ (a.a = b.a ∧ a.b = b.b ∧ a.c = b.c ∧ a.p = b.p) → ((x == 0) == false) = true := by
    intro g
    have : ¬ x = 0 := fun e => g (h.1 e)
    rw [beq_eq_false_iff_ne.2 this]; rfl
  by_cases c1 : a.a = b.a
  · rw [if_pos c1]
    by_cases c2 : a.b = b.b
    · rw [if_pos c2]
      by_cases c3 : a.c = b.c
      · rw [if_pos c3]
        have : ((x == 0) == (a.p.toList == b.p.toList)) = true := by
          by_cases c4 : a.p = b.p
          · rw [c4, beq_iff_eq.2 (h.2 ⟨c1, c2, c3, c4⟩)]; simp
          · have hx : ¬ x = 0 := fun e => c4 (h.1 e).2.2.2
            have hl : ¬ a.p.toList = b.p.toList := fun e => c4 ((toList_eq _ _).1 e)
            rw [beq_eq_false_iff_ne.2 hx, beq_eq_false_iff_ne.2 hl]; rfl
        rw [if_pos this]; rfl
      · rw [if_neg c3, if_pos (no fun g => c3 g.2.2.1)]; rfl
    · rw [if_neg c2, if_pos (no fun g => c2 g.2.1)]; rfl
  · rw [if_neg c1, if_pos (no fun g => c1 g.1)]; rfl
theorem VerLine (a b c : Vr) (h1 : a.p.size ≤ 140737488351232) (h2 : b.p.size ≤ 140737488351232) (h3 : c.p.size ≤ 140737488351232) (h4 : a.q.size ≤ 140737488351232) (h5 : b.q.size ≤ 140737488351232) (h6 : c.q.size ≤ 140737488351232) :
    armadalaw07_VerLine.f 40 a.a a.b a.c a.p a.q b.a b.b b.c b.p b.q c.a c.b c.c c.p c.q = some true := by
  have L38 : armadalaw07_live.f 38 = some true := live_true (by omega)
  unfold armadalaw07_VerLine.f
  rw [live_true (by omega), w64 (x := (a.p.size : Int) + (b.p.size : Int)) (by omega) (by omega), w64 (x := (a.p.size : Int) + (b.p.size : Int) + (c.p.size : Int)) (by omega) (by omega), w64 (x := (a.p.size : Int) + (b.p.size : Int) + (c.p.size : Int) + (a.q.size : Int)) (by omega) (by omega),
    w64 (x := (a.p.size : Int) + (b.p.size : Int) + (c.p.size : Int) + (a.q.size : Int) + (b.q.size : Int)) (by omega) (by omega), w64 (x := (a.p.size : Int) + (b.p.size : Int) + (c.p.size : Int) + (a.q.size : Int) + (b.q.size : Int) + (c.q.size : Int)) (by omega) (by omega)]
  by_cases big : (a.p.size : Int) + (b.p.size : Int) + (c.p.size : Int) + (a.q.size : Int) + (b.q.size : Int) + (c.q.size : Int) > 600
  · rw [if_pos big]; rfl
  · rw [if_neg big]
    have la : a.lim := ⟨by omega, by omega⟩
    have lb : b.lim := ⟨by omega, by omega⟩
    have lc : c.lim := ⟨by omega, by omega⟩
    rw [compare_fz a b la lb _ (by omega), compare_fz b a lb la _ (by omega)]
    simp only [Option.bind_some]
    have hn := compareZ_neg a b
    have hr := compareZ_rng a b
    have hq : compareZ a b = wrap64 (-compareZ b a) := by rw [w64 (by omega) (by omega)]; omega
    rw [if_pos hq, if_neg (by omega), decide_eq_false (by omega), armadalaw07_VerLine.j0, if_neg (by simp), check_f a la, check_f b lb, check_f c lc]
    simp only [Option.bind_some]
    by_cases oa : a.ok = true
    · rw [if_pos oa]
      by_cases ob : b.ok = true
      · rw [if_pos ob]
        by_cases oc : c.ok = true
        · rw [oc, armadalaw07_VerLine.j1, if_neg (by simp), L38]
          have hz : compareZ a b = 0 ↔ (a.a = b.a ∧ a.b = b.b ∧ a.c = b.c ∧ a.p = b.p) := by rw [compareZ_ok oa ob]; exact ord_zero
          have T := lineTail (compareZ a b) a b (some true) rfl hz
          by_cases l1 : compareZ a b ≤ 0
          · rw [if_pos l1, compare_fz b c lb lc _ (by omega)]
            simp only [Option.bind_some] at T ⊢
            by_cases l2 : compareZ b c ≤ 0
            · rw [if_pos l2, compare_fz a c la lc _ (by omega)]
              simp only [Option.bind_some]
              have : ¬ compareZ a c > 0 := by
                rw [compareZ_ok oa ob] at l1
                rw [compareZ_ok ob oc] at l2
                rw [compareZ_ok oa oc]
                have := tot_ord.tr a b c l1 l2
                omega
              rw [if_neg this]; exact T
            · rw [if_neg l2]; exact T
          · rw [if_neg l1]; exact T
        · rw [Bool.eq_false_iff.2 oc, armadalaw07_VerLine.j1, if_pos (show (!false) = true by rfl), L38]; rfl
      · rw [if_neg ob, armadalaw07_VerLine.j1, if_pos rfl, L38]; rfl
    · rw [if_neg oa, armadalaw07_VerLine.j1, if_pos rfl, L38]; rfl
end Go.Proofs.YthoiepkejhhcoaaDoor.Pure
