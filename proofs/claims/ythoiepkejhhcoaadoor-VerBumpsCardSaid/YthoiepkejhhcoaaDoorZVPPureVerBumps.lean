/- VerBumps: what a version is bumped to is above it, and a release; a greater level bumps no less; no release between stands at that level. -/
import Derived.Test.YthoiepkejhhcoaaDoorZVPM5
import Derived.Test.YthoiepkejhhcoaaDoorZVPVBumpL
import Derived.Test.YthoiepkejhhcoaaDoorZVPVLive
set_option linter.unusedVariables false
set_option linter.unusedSimpArgs false
namespace Go.Proofs.YthoiepkejhhcoaaDoor.Pure
open Go.RowKit Go.Proofs.YthoiepkejhhcoaaDoor.P Go.Proofs.YthoiepkejhhcoaaDoorW.PrintWords Go.Proofs.YthoiepkejhhcoaaDoorW.PrintLast Go.Proofs.YthoiepkejhhcoaaDoorW.PrintMore
theorem bumps_j2 (v w A : Vr) (l : Int) (k : Nat) (hk : 40 ≤ k) (lv : v.lim) (lw : w.lim) (lA : A.lim)
    (M : w.ok = true → w.p.size = 0 → (l < 2 ∨ w.c = 0) → (l < 3 ∨ w.b = 0) → compareZ w v ≤ 0 ∨ compareZ w A ≥ 0) :
    armadalaw07_VerBumps.j2 k l false v.a v.b v.c v.p v.q w.a w.b w.c w.p w.q A.a A.b A.c A.p A.q = some true := by
  obtain ⟨k, rfl⟩ : ∃ k', k = k' + 1 := ⟨k - 1, by omega⟩
  rw [armadalaw07_VerBumps.j2, if_neg (by simp), check_f w lw, compare_fz w v lw lv k (by omega), compare_fz w A lw lA k (by omega), live_true (by omega)]
  simp only [Option.bind_some]
  have fin : w.ok = true → w.p.size = 0 → (l < 2 ∨ w.c = 0) → (l < 3 ∨ w.b = 0) → (if compareZ w v ≤ 0 then some true else (if compareZ w A ≥ 0 then some true else some false)) = some true := by
    intro h1 h2 h3 h4
    by_cases c : compareZ w v ≤ 0
    · rw [if_pos c]
    · rw [if_neg c]
      rcases M h1 h2 h3 h4 with g | g
      · exact absurd g c
      · rw [if_pos g]
  by_cases ow : w.ok = true
  · rw [if_pos ow]
    by_cases ep : w.p.size = 0
    · rw [if_pos ((toList_nil w.p).2 ep)]
      by_cases c2 : l < 2
      · rw [if_pos c2, if_pos (by omega)]
        exact fin ow ep (.inl c2) (.inl (by omega))
      · rw [if_neg c2]
        by_cases ec : w.c = 0
        · rw [if_pos ec]
          by_cases c3 : l < 3
          · rw [if_pos c3]; exact fin ow ep (.inr ec) (.inl c3)
          · rw [if_neg c3]
            by_cases eb : w.b = 0
            · rw [if_pos eb]; exact fin ow ep (.inr ec) (.inr eb)
            · rw [if_neg eb]
        · rw [if_neg ec]
    · rw [if_neg (fun h => ep ((toList_nil w.p).1 h))]
  · rw [if_neg ow]
theorem bumps_j1 (v w A : Vr) (l : Int) (k : Nat) (hk : 41 ≤ k) (lv : v.lim) (lw : w.lim) (lA : A.lim) (hl : 1 ≤ l ∧ l ≤ 3)
    (U : (bumpZ v.a v.b v.c v.p v.q (l + 1)).2.2.2 = 0 → ¬ compareZ ⟨(bumpZ v.a v.b v.c v.p v.q (l + 1)).1, (bumpZ v.a v.b v.c v.p v.q (l + 1)).2.1, (bumpZ v.a v.b v.c v.p v.q (l + 1)).2.2.1, ⟨#[]⟩, ⟨#[]⟩⟩ A < 0)
    (M : w.ok = true → w.p.size = 0 → (l < 2 ∨ w.c = 0) → (l < 3 ∨ w.b = 0) → compareZ w v ≤ 0 ∨ compareZ w A ≥ 0) :
    armadalaw07_VerBumps.j1 k l false v.a v.b v.c v.p v.q w.a w.b w.c w.p w.q A.a A.b A.c A.p A.q = some true := by
  obtain ⟨k, rfl⟩ : ∃ k', k = k' + 1 := ⟨k - 1, by omega⟩
  have J := bumps_j2 v w A l k (by omega) lv lw lA M
  have w1 : wrap64 (l + 1) = l + 1 := by unfold wrap64; omega
  rw [armadalaw07_VerBumps.j1, if_neg (by simp), w1, bump_out v.a v.b v.c v.p v.q (l + 1) lv]
  generalize bumpZ v.a v.b v.c v.p v.q (l + 1) = z at U
  obtain ⟨x, y, t, e⟩ := z
  unfold outB
  simp only [Option.bind_some]
  dsimp only at U
  by_cases he : e = 0
  · have mc := compare_fz ⟨x, y, t, ⟨#[]⟩, ⟨#[]⟩⟩ A ⟨Nat.zero_le _, Nat.zero_le _⟩ lA k (by omega)
    change ver_Compare.f k x y t ⟨#[]⟩ ⟨#[]⟩ _ _ _ _ _ = _ at mc
    rw [if_pos he, mc]
    simp only [Option.bind_some]
    rw [decide_eq_false (U he)]; exact J
  · rw [if_neg he]; exact J
theorem VerBumps (v w : Vr) (l : Int) : armadalaw07_VerBumps.f 50 v.a v.b v.c v.p v.q l w.a w.b w.c w.p w.q = some true := by
  have big : armadalaw07_VerBumps.j0 50 l true v.a v.b v.c v.p v.q w.a w.b w.c w.p w.q = some true := by
    rw [armadalaw07_VerBumps.j0, if_pos rfl, live_true (by omega)]; rfl
  unfold armadalaw07_VerBumps.f
  by_cases c1 : (v.p.size : Int) > 200
  · rw [if_pos c1]; exact big
  · rw [if_neg c1]
    by_cases c2 : (v.q.size : Int) > 200
    · rw [if_pos c2]; exact big
    · rw [if_neg c2]
      by_cases c3 : (w.p.size : Int) > 200
      · rw [if_pos c3]; exact big
      · rw [if_neg c3]
        by_cases c4 : (w.q.size : Int) > 200
        · rw [decide_eq_true c4]; exact big
        · have lv : v.lim := ⟨by omega, by omega⟩
          have lw : w.lim := ⟨by omega, by omega⟩
          have S := bump_spec v l
          have U := bump_up v l
          have M := bump_mid v w l
          have K := bump_no v l
          rw [decide_eq_false c4, armadalaw07_VerBumps.j0, if_neg (by simp), bump_out v.a v.b v.c v.p v.q l lv, check_f v lv, live_true (by omega)]
          generalize bumpZ v.a v.b v.c v.p v.q l = z at S U M K
          obtain ⟨x, y, t, e⟩ := z
          unfold outB
          simp only [Option.bind_some]
          dsimp only at S U M K
          by_cases he : e = 0
          · obtain ⟨hl1, hl3, s1, s2, s3⟩ := S he
            have lA : Vr.lim ⟨x, y, t, ⟨#[]⟩, ⟨#[]⟩⟩ := ⟨Nat.zero_le _, Nat.zero_le _⟩
            have mc := compare_fz ⟨x, y, t, ⟨#[]⟩, ⟨#[]⟩⟩ v lA lv 49 (by omega)
            change ver_Compare.f 49 x y t ⟨#[]⟩ ⟨#[]⟩ _ _ _ _ _ = _ at mc
            rw [s1] at mc
            have J := bumps_j1 v w ⟨x, y, t, ⟨#[]⟩, ⟨#[]⟩⟩ l 49 (by omega) lv lw lA ⟨hl1, hl3⟩ (U he) (M he)
            have e0 : (⟨#[]⟩ : ByteArray).toList = ([] : List UInt8) := (toList_nil _).2 rfl
            rw [if_pos he, mc]
            simp only [Option.bind_some]
            rw [if_pos trivial, if_pos e0, if_pos e0]
            by_cases g2 : l ≥ 2
            · rw [if_pos g2, if_pos (s2 g2)]
              by_cases g3 : l = 3
              · have : (y != 0) = false := by rw [s3 g3]; rfl
                rw [if_pos g3, this]; exact J
              · rw [if_neg g3]; exact J
            · rw [if_neg g2, if_neg (by omega)]; exact J
          · rw [if_neg he]
            obtain ⟨k1, k2, k3, k4⟩ := K he
            rw [if_pos (by rw [k1, k2, k3]; simp)]
            rcases k4 with k4 | k4
            · rw [if_pos k4]
            · by_cases e15 : e = 15
              · rw [if_pos e15]
              · rw [if_neg e15]
                by_cases ov : v.ok = true
                · rw [if_pos ov]
                  by_cases l1 : l < 1
                  · rw [if_pos l1]
                  · rw [if_neg l1, if_pos (by have := k4 ov; omega)]
                · rw [if_neg ov]
end Go.Proofs.YthoiepkejhhcoaaDoor.Pure
