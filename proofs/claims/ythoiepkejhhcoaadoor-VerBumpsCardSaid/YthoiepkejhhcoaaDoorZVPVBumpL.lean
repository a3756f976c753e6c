/- ver: where what a version is bumped to stands in the order. No program in sight. -/
import Derived.Test.YthoiepkejhhcoaaDoorZVPVRelL
set_option linter.unusedVariables false
set_option linter.unusedSimpArgs false
namespace Go.Proofs.YthoiepkejhhcoaaDoor.P
open Go.RowKit Go.Proofs.YthoiepkejhhcoaaDoorW.PrintWords Go.Proofs.YthoiepkejhhcoaaDoorW.PrintLast Go.Proofs.YthoiepkejhhcoaaDoorW.PrintMore
theorem cmpI_cases (x y : Int) : (x < y ∧ cmpI x y = -1) ∨ (x = y ∧ cmpI x y = 0) ∨ (y < x ∧ cmpI x y = 1) := by
  unfold cmpI
  by_cases h : x < y
  · exact .inl ⟨h, if_pos h⟩
  · by_cases g : x > y
    · exact .inr (.inr ⟨g, by rw [if_neg h, if_pos g]⟩)
    · exact .inr (.inl ⟨by omega, by rw [if_neg h, if_neg g]⟩)
theorem rel_pos (w v : Vr) (hw : w.p = ⟨#[]⟩) : ordV w v > 0 ↔ (v.a < w.a ∨ (v.a = w.a ∧ (v.b < w.b ∨ (v.b = w.b ∧ (v.c < w.c ∨ (v.c = w.c ∧ v.p.size ≠ 0)))))) := by
  unfold ordV
  rw [hw]
  have P := pre_up v.p
  rcases cmpI_cases w.a v.a with ⟨h1, e1⟩ | ⟨h1, e1⟩ | ⟨h1, e1⟩
  · rw [e1, if_neg (by omega)]; omega
  · rw [e1, if_pos rfl]
    rcases cmpI_cases w.b v.b with ⟨h2, e2⟩ | ⟨h2, e2⟩ | ⟨h2, e2⟩
    · rw [e2, if_neg (by omega)]; omega
    · rw [e2, if_pos rfl]
      rcases cmpI_cases w.c v.c with ⟨h3, e3⟩ | ⟨h3, e3⟩ | ⟨h3, e3⟩
      · rw [e3, if_neg (by omega)]; omega
      · rw [e3, if_pos rfl, P]; omega
      · rw [e3, if_neg (by omega)]; omega
    · rw [e2, if_neg (by omega)]; omega
  · rw [e1, if_neg (by omega)]; omega
theorem rel_neg (w v : Vr) (hv : v.p = ⟨#[]⟩) (hw : w.p = ⟨#[]⟩) : ordV w v < 0 ↔ (w.a < v.a ∨ (w.a = v.a ∧ (w.b < v.b ∨ (w.b = v.b ∧ w.c < v.c)))) := by
  have n := tot_ord.neg v w
  have p := rel_pos v w hv
  have z : w.p.size = 0 := by rw [hw]; rfl
  omega
/-- The ways of a bump. -/
inductive Way (v : Vr) (l : Int) : Int × Int × Int × Int → Prop
  | fit (h : v.p.size ≠ 0) (h2 : l < 2 ∨ v.c = 0) (h3 : l < 3 ∨ v.b = 0) : Way v l (v.a, v.b, v.c, 0)
  | c1 (h : l = 1) (hp : v.p.size = 0) (hc : v.c + 1 ≤ 999999999) : Way v l (v.a, v.b, v.c + 1, 0)
  | b1 (h : l = 1) (hp : v.p.size = 0) (hc : v.c = 999999999) (hb : v.b + 1 ≤ 999999999) : Way v l (v.a, v.b + 1, 0, 0)
  | a1 (h : l = 1) (hp : v.p.size = 0) (hc : v.c = 999999999) (hb : v.b = 999999999) (ha : v.a + 1 ≤ 999999999) : Way v l (v.a + 1, 0, 0, 0)
  | b2 (h : l = 2) (hp : v.p.size = 0 ∨ v.c ≠ 0) (hb : v.b + 1 ≤ 999999999) : Way v l (v.a, v.b + 1, 0, 0)
  | a2 (h : l = 2) (hp : v.p.size = 0 ∨ v.c ≠ 0) (hb : v.b = 999999999) (ha : v.a + 1 ≤ 999999999) : Way v l (v.a + 1, 0, 0, 0)
  | a3 (h : l = 3) (hp : v.p.size = 0 ∨ v.c ≠ 0 ∨ v.b ≠ 0) (ha : v.a + 1 ≤ 999999999) : Way v l (v.a + 1, 0, 0, 0)
  | over : Way v l (0, 0, 0, 15)
theorem bump_way (v : Vr) (l : Int) (ov : v.ok = true) (h1 : 1 ≤ l) (h3 : l ≤ 3) : Way v l (bumpZ v.a v.b v.c v.p v.q l) := by
  have hc : checkB v.a v.b v.c v.p v.q = true := ov
  obtain ⟨n1, n2, n3, _, _⟩ := check_nums hc
  have m1 := num_iff.1 n1
  have m2 := num_iff.1 n2
  have m3 := num_iff.1 n3
  unfold bumpZ
  rw [if_pos ⟨hc, h1, h3⟩]
  by_cases hf : fitsZ v.b v.c v.p l
  · rw [if_pos hf]; exact .fit hf.1 hf.2.1 hf.2.2
  · rw [if_neg hf]
    have hf' : ¬ (v.p.size ≠ 0 ∧ (l < 2 ∨ v.c = 0) ∧ (l < 3 ∨ v.b = 0)) := hf
    have num : ∀ x : Int, 0 ≤ x → (numB (x + 1) = true ↔ x + 1 ≤ 999999999) := fun x hx => by rw [num_iff]; omega
    have nA := num v.a m1.1
    have nB := num v.b m2.1
    have nC := num v.c m3.1
    have wA : ∀ (hb : v.a + 1 ≤ 999999999 → Way v l (v.a + 1, 0, 0, 0)), Way v l (stepA v.a) := fun hb => by
      unfold stepA
      by_cases a : numB (v.a + 1) = true
      · rw [if_pos a]; exact hb (nA.1 a)
      · rw [if_neg a]; exact .over
    by_cases e1 : l = 1
    · rw [if_pos e1]
      unfold stepC
      by_cases c : numB (v.c + 1) = true
      · rw [if_pos c]; exact .c1 e1 (by omega) (nC.1 c)
      · rw [if_neg c]
        have c' : ¬ v.c + 1 ≤ 999999999 := fun g => c (nC.2 g)
        unfold stepB
        by_cases b : numB (v.b + 1) = true
        · rw [if_pos b]; exact .b1 e1 (by omega) (by omega) (nB.1 b)
        · rw [if_neg b]
          have b' : ¬ v.b + 1 ≤ 999999999 := fun g => b (nB.2 g)
          exact wA fun a => .a1 e1 (by omega) (by omega) (by omega) a
    · rw [if_neg e1]
      by_cases e2 : l = 2
      · rw [if_pos e2]
        unfold stepB
        by_cases b : numB (v.b + 1) = true
        · rw [if_pos b]; exact .b2 e2 (by omega) (nB.1 b)
        · rw [if_neg b]
          have b' : ¬ v.b + 1 ≤ 999999999 := fun g => b (nB.2 g)
          exact wA fun a => .a2 e2 (by omega) (by omega) a
      · rw [if_neg e2]; exact wA fun a => .a3 (by omega) (by omega) a
theorem bump_bad (v : Vr) (l : Int) (h : ¬ (v.ok = true ∧ 1 ≤ l ∧ l ≤ 3)) : bumpZ v.a v.b v.c v.p v.q l = (0, 0, 0, 1) := by
  unfold bumpZ
  exact if_neg h
/-- A bump that goes: its numbers, and where they stand. -/
theorem bump_num (v : Vr) (l : Int) {x y t e : Int} (hz : bumpZ v.a v.b v.c v.p v.q l = (x, y, t, e)) (he : e = 0) : v.ok = true ∧ 1 ≤ l ∧ l ≤ 3 ∧
    (0 ≤ v.a ∧ v.a ≤ 999999999) ∧ (0 ≤ v.b ∧ v.b ≤ 999999999) ∧ (0 ≤ v.c ∧ v.c ≤ 999999999) ∧ Way v l (x, y, t, 0) := by
  by_cases h : v.ok = true ∧ 1 ≤ l ∧ l ≤ 3
  · have hc : checkB v.a v.b v.c v.p v.q = true := h.1
    obtain ⟨n1, n2, n3, _, _⟩ := check_nums hc
    have W := bump_way v l h.1 h.2.1 h.2.2
    rw [hz, he] at W
    exact ⟨h.1, h.2.1, h.2.2, num_iff.1 n1, num_iff.1 n2, num_iff.1 n3, W⟩
  · rw [bump_bad v l h] at hz
    have := congrArg (fun z : Int × Int × Int × Int => z.2.2.2) hz
    dsimp only at this
    omega
/-- The ways, plainly. -/
theorem Way.num {v : Vr} {l x y t : Int} (W : Way v l (x, y, t, 0)) :
    (v.p.size ≠ 0 ∧ (l < 2 ∨ v.c = 0) ∧ (l < 3 ∨ v.b = 0) ∧ x = v.a ∧ y = v.b ∧ t = v.c) ∨ (l = 1 ∧ v.p.size = 0 ∧ v.c + 1 ≤ 999999999 ∧ x = v.a ∧ y = v.b ∧ t = v.c + 1) ∨
    (l = 1 ∧ v.p.size = 0 ∧ v.c = 999999999 ∧ v.b + 1 ≤ 999999999 ∧ x = v.a ∧ y = v.b + 1 ∧ t = 0) ∨ (l = 1 ∧ v.p.size = 0 ∧ v.c = 999999999 ∧ v.b = 999999999 ∧ v.a + 1 ≤ 999999999 ∧ x = v.a + 1 ∧ y = 0 ∧ t = 0) ∨
    (l = 2 ∧ (v.p.size = 0 ∨ v.c ≠ 0) ∧ v.b + 1 ≤ 999999999 ∧ x = v.a ∧ y = v.b + 1 ∧ t = 0) ∨ (l = 2 ∧ (v.p.size = 0 ∨ v.c ≠ 0) ∧ v.b = 999999999 ∧ v.a + 1 ≤ 999999999 ∧ x = v.a + 1 ∧ y = 0 ∧ t = 0) ∨
    (l = 3 ∧ (v.p.size = 0 ∨ v.c ≠ 0 ∨ v.b ≠ 0) ∧ v.a + 1 ≤ 999999999 ∧ x = v.a + 1 ∧ y = 0 ∧ t = 0) := by
  generalize hz : (x, y, t, (0 : Int)) = z at W
  cases W <;> simp only [Prod.mk.injEq] at hz
  · exact .inl ⟨by assumption, by assumption, by assumption, hz.1, hz.2.1, hz.2.2.1⟩
  · exact .inr (.inl ⟨by assumption, by assumption, by assumption, hz.1, hz.2.1, hz.2.2.1⟩)
  · exact .inr (.inr (.inl ⟨by assumption, by assumption, by assumption, by assumption, hz.1, hz.2.1, hz.2.2.1⟩))
  · exact .inr (.inr (.inr (.inl ⟨by assumption, by assumption, by assumption, by assumption, by assumption, hz.1, hz.2.1, hz.2.2.1⟩)))
  · exact .inr (.inr (.inr (.inr (.inl ⟨by assumption, by assumption, by assumption, hz.1, hz.2.1, hz.2.2.1⟩))))
  · exact .inr (.inr (.inr (.inr (.inr (.inl ⟨by assumption, by assumption, by assumption, by assumption, hz.1, hz.2.1, hz.2.2.1⟩)))))
  · exact .inr (.inr (.inr (.inr (.inr (.inr ⟨by assumption, by assumption, by assumption, hz.1, hz.2.1, hz.2.2.1⟩)))))
  · omega
theorem way_ok {v : Vr} {l x y t : Int} (W : Way v l (x, y, t, 0)) (ha : 0 ≤ v.a ∧ v.a ≤ 999999999) (hb : 0 ≤ v.b ∧ v.b ≤ 999999999) (hc : 0 ≤ v.c ∧ v.c ≤ 999999999) : (0 ≤ x ∧ x ≤ 999999999) ∧ (0 ≤ y ∧ y ≤ 999999999) ∧ (0 ≤ t ∧ t ≤ 999999999) ∧ Vr.ok ⟨x, y, t, ⟨#[]⟩, ⟨#[]⟩⟩ = true := by
  have N : (0 ≤ x ∧ x ≤ 999999999) ∧ (0 ≤ y ∧ y ≤ 999999999) ∧ (0 ≤ t ∧ t ≤ 999999999) := by
    rcases W.num with h | h | h | h | h | h | h <;> omega
  exact ⟨N.1, N.2.1, N.2.2, (check_rel x y t).2 ⟨num_iff.2 N.1, num_iff.2 N.2.1, num_iff.2 N.2.2⟩⟩
theorem bump_spec (v : Vr) (l : Int) : (bumpZ v.a v.b v.c v.p v.q l).2.2.2 = 0 → 1 ≤ l ∧ l ≤ 3 ∧ compareZ ⟨(bumpZ v.a v.b v.c v.p v.q l).1, (bumpZ v.a v.b v.c v.p v.q l).2.1, (bumpZ v.a v.b v.c v.p v.q l).2.2.1, ⟨#[]⟩, ⟨#[]⟩⟩ v = 1 ∧
    (l ≥ 2 → (bumpZ v.a v.b v.c v.p v.q l).2.2.1 = 0) ∧ (l = 3 → (bumpZ v.a v.b v.c v.p v.q l).2.1 = 0) := by
  generalize hz : bumpZ v.a v.b v.c v.p v.q l = z
  obtain ⟨x, y, t, e⟩ := z
  dsimp only
  intro he
  obtain ⟨ov, h1, h3, ha, hb, hc, W⟩ := bump_num v l hz he
  obtain ⟨_, _, _, oA⟩ := way_ok W ha hb hc
  have hp := (rel_pos ⟨x, y, t, ⟨#[]⟩, ⟨#[]⟩⟩ v rfl).2 (by
    show v.a < x ∨ (v.a = x ∧ (v.b < y ∨ (v.b = y ∧ (v.c < t ∨ (v.c = t ∧ v.p.size ≠ 0)))))
    rcases W.num with h | h | h | h | h | h | h <;> omega)
  have hr := tot_ord.rng ⟨x, y, t, ⟨#[]⟩, ⟨#[]⟩⟩ v
  refine ⟨h1, h3, by rw [compareZ_ok oA ov]; omega, ?_, ?_⟩
  · intro h2
    rcases W.num with h | h | h | h | h | h | h <;> omega
  · intro h2
    rcases W.num with h | h | h | h | h | h | h <;> omega
theorem bump_up (v : Vr) (l : Int) : (bumpZ v.a v.b v.c v.p v.q l).2.2.2 = 0 → (bumpZ v.a v.b v.c v.p v.q (l + 1)).2.2.2 = 0 →
    ¬ compareZ ⟨(bumpZ v.a v.b v.c v.p v.q (l + 1)).1, (bumpZ v.a v.b v.c v.p v.q (l + 1)).2.1, (bumpZ v.a v.b v.c v.p v.q (l + 1)).2.2.1, ⟨#[]⟩, ⟨#[]⟩⟩ ⟨(bumpZ v.a v.b v.c v.p v.q l).1, (bumpZ v.a v.b v.c v.p v.q l).2.1, (bumpZ v.a v.b v.c v.p v.q l).2.2.1, ⟨#[]⟩, ⟨#[]⟩⟩ < 0 := by
  generalize hz : bumpZ v.a v.b v.c v.p v.q l = z
  obtain ⟨x, y, t, e⟩ := z
  generalize hz2 : bumpZ v.a v.b v.c v.p v.q (l + 1) = z2
  obtain ⟨x2, y2, t2, e2⟩ := z2
  dsimp only
  intro he he2
  obtain ⟨ov, h1, h3, ha, hb, hc, W⟩ := bump_num v l hz he
  obtain ⟨_, g1, g3, _, _, _, W2⟩ := bump_num v (l + 1) hz2 he2
  obtain ⟨_, _, _, oA⟩ := way_ok W ha hb hc
  obtain ⟨_, _, _, oB⟩ := way_ok W2 ha hb hc
  rw [compareZ_ok oB oA, rel_neg _ _ rfl rfl]
  show ¬ (x2 < x ∨ (x2 = x ∧ (y2 < y ∨ (y2 = y ∧ t2 < t))))
  rcases W.num with h | h | h | h | h | h | h <;> rcases W2.num with g | g | g | g | g | g | g <;> omega
theorem bump_mid (v w : Vr) (l : Int) : (bumpZ v.a v.b v.c v.p v.q l).2.2.2 = 0 → w.ok = true → w.p.size = 0 → (l < 2 ∨ w.c = 0) → (l < 3 ∨ w.b = 0) →
    compareZ w v ≤ 0 ∨ compareZ w ⟨(bumpZ v.a v.b v.c v.p v.q l).1, (bumpZ v.a v.b v.c v.p v.q l).2.1, (bumpZ v.a v.b v.c v.p v.q l).2.2.1, ⟨#[]⟩, ⟨#[]⟩⟩ ≥ 0 := by
  generalize hz : bumpZ v.a v.b v.c v.p v.q l = z
  obtain ⟨x, y, t, e⟩ := z
  dsimp only
  intro he ow wp h2 h3'
  obtain ⟨ov, h1, h3, ha, hb, hc, W⟩ := bump_num v l hz he
  obtain ⟨_, _, _, oA⟩ := way_ok W ha hb hc
  have hw : w.p = ⟨#[]⟩ := ByteArray.size_eq_zero_iff.1 wp
  have cw : checkB w.a w.b w.c w.p w.q = true := ow
  obtain ⟨n1, n2, n3, _, _⟩ := check_nums cw
  have m1 := num_iff.1 n1
  have m2 := num_iff.1 n2
  have m3 := num_iff.1 n3
  rw [compareZ_ok ow ov, compareZ_ok ow oA]
  apply Classical.byContradiction
  intro hno
  have q1 : ordV w v > 0 := by omega
  have q2 : ordV w ⟨x, y, t, ⟨#[]⟩, ⟨#[]⟩⟩ < 0 := by omega
  rw [rel_pos w v hw] at q1
  rw [rel_neg w _ rfl hw] at q2
  change w.a < x ∨ (w.a = x ∧ (w.b < y ∨ (w.b = y ∧ w.c < t))) at q2
  rcases W.num with h | h | h | h | h | h | h <;> omega
theorem bump_no (v : Vr) (l : Int) : ¬ (bumpZ v.a v.b v.c v.p v.q l).2.2.2 = 0 → (bumpZ v.a v.b v.c v.p v.q l).1 = 0 ∧ (bumpZ v.a v.b v.c v.p v.q l).2.1 = 0 ∧ (bumpZ v.a v.b v.c v.p v.q l).2.2.1 = 0 ∧
    ((bumpZ v.a v.b v.c v.p v.q l).2.2.2 = 15 ∨ (v.ok = true → ¬ (1 ≤ l ∧ l ≤ 3))) := by
  by_cases h : v.ok = true ∧ 1 ≤ l ∧ l ≤ 3
  · have W := bump_way v l h.1 h.2.1 h.2.2
    generalize bumpZ v.a v.b v.c v.p v.q l = z at W
    intro he
    cases W <;> first | exact absurd rfl he | exact ⟨rfl, rfl, rfl, .inl rfl⟩
  · rw [bump_bad v l h]
    intro _
    exact ⟨rfl, rfl, rfl, .inr fun ov g => h ⟨ov, g⟩⟩
end Go.Proofs.YthoiepkejhhcoaaDoor.P
