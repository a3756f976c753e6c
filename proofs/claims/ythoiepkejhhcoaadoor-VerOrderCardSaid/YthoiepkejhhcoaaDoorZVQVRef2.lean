/- ver: what the document's Bump and Max tell: as the program's. -/
import Derived.Test.YthoiepkejhhcoaaDoorZVQM1
import Derived.Test.YthoiepkejhhcoaaDoorZVQM2
import Derived.Test.YthoiepkejhhcoaaDoorZVQVRef
import Derived.Test.YthoiepkejhhcoaaDoorZVQVRelL
set_option linter.unusedVariables false
set_option linter.unusedSimpArgs false
namespace Go.Proofs.YthoiepkejhhcoaaDoor.P
open Go.RowKit Go.Proofs.YthoiepkejhhcoaaDoorW.PrintWords Go.Proofs.YthoiepkejhhcoaaDoorW.PrintLast Go.Proofs.YthoiepkejhhcoaaDoorW.PrintMore
theorem rmax_l0 (l : List S23) (hn : l.length < 4611686018427387904) (r : List S23) : ∀ (i k : Nat) (b : Bool) (m : Vr), l.drop i = r → i ≤ l.length → r.length + 4000012 ≤ k →
    armadaref07_Max.l0 k l b (i : Int) m.a m.b m.c m.p m.q = some (outV (mx r b m)) := by
  induction r with
  | nil =>
    intro i k b m hr hi hk
    obtain ⟨k, rfl⟩ : ∃ k', k = k' + 1 := ⟨k - 1, by omega⟩
    have : i = l.length := by have := List.drop_eq_nil_iff.1 hr; omega
    subst this
    rw [armadaref07_Max.l0, if_neg (by omega)]; rfl
  | cons x r ih =>
    intro i k b m hr hi hk
    obtain ⟨k, rfl⟩ : ∃ k', k = k' + 1 := ⟨k - 1, by omega⟩
    obtain ⟨hx, hlt, hd⟩ := rd23_drop hr
    have hk' : r.length + 4000012 ≤ k := by rw [List.length_cons] at hk; omega
    rw [armadaref07_Max.l0, if_pos (by omega), if_pos (by omega), hx, wsucc i (by omega), mx]
    have cf := rcheck_f x.f0 x.f1 x.f2 x.f3 x.f4 k (by omega)
    have mc := rcompare_f (vr x) m k (by omega)
    have ihx := ih (i + 1) k true (vr x) hd (by omega) hk'
    have ihm := ih (i + 1) k b m hd (by omega) hk'
    change _ = some (vr x).ok at cf
    change armadaref07_Compare.f k x.f0 x.f1 x.f2 x.f3 x.f4 _ _ _ _ _ = _ at mc
    change armadaref07_Max.l0 k l true _ x.f0 x.f1 x.f2 x.f3 x.f4 = _ at ihx
    rw [cf]
    simp only [Option.bind_some]
    by_cases ok : (vr x).ok = true
    · rw [if_pos ok, if_pos ok]
      by_cases hb : b = true
      · subst hb
        rw [if_pos rfl, if_pos rfl, mc]
        simp only [Option.bind_some]
        by_cases hc : compareZ (vr x) m > 0
        · rw [if_pos hc, if_pos hc]; exact ihx
        · rw [if_neg hc, if_neg hc]; exact ihm
      · rw [if_neg hb, if_neg hb]; exact ihx
    · rw [if_neg ok, if_neg ok]; exact ihm
theorem rmax_f (l : List S23) (hn : l.length < 4611686018427387904) (k : Nat) (hk : l.length + 4000012 ≤ k) : armadaref07_Max.f k l = some (outV (mx l false z0)) := by
  unfold armadaref07_Max.f
  exact rmax_l0 l hn l 0 k false z0 rfl (Nat.zero_le _) hk
def tk (l : Int) (v : Vr) (x : S23) : Prop := ¬ (l ≥ 2 ∧ x.f2 ≠ 0) ∧ ¬ (l = 3 ∧ x.f1 ≠ 0) ∧ (vr x).ok = true ∧ compareZ (vr x) v > 0
theorem rb_step (l : Int) (v : Vr) (L : List S23) (i : Nat) (x : S23) (hi : i < L.length) (hL : L.length < 100) (hx : rd_T23 L (i : Int) = x) (k : Nat) (hk : 4000100 ≤ k) :
    (tk l v x → armadaref07_Bump.l0 (k + 2) l L (i : Int) v.a v.b v.c v.p v.q = some (x.f0, x.f1, x.f2, x.f3, x.f4, 0)) ∧
    (¬ tk l v x → armadaref07_Bump.l0 (k + 2) l L (i : Int) v.a v.b v.c v.p v.q = armadaref07_Bump.l0 k l L ((i + 1 : Nat) : Int) v.a v.b v.c v.p v.q) := by
  have jt : armadaref07_Bump.j2 (k + 1) l L (i : Int) true v.a v.b v.c v.p v.q x.f0 x.f1 x.f2 x.f3 x.f4 = armadaref07_Bump.l0 k l L ((i + 1 : Nat) : Int) v.a v.b v.c v.p v.q := by
    rw [armadaref07_Bump.j2, if_pos rfl, wsucc i (by omega)]
  have mc := rcompare_f (vr x) v k (by omega)
  change armadaref07_Compare.f k x.f0 x.f1 x.f2 x.f3 x.f4 _ _ _ _ _ = _ at mc
  have jf : armadaref07_Bump.j2 (k + 1) l L (i : Int) false v.a v.b v.c v.p v.q x.f0 x.f1 x.f2 x.f3 x.f4 = if compareZ (vr x) v > 0 then some (x.f0, x.f1, x.f2, x.f3, x.f4, 0) else armadaref07_Bump.l0 k l L ((i + 1 : Nat) : Int) v.a v.b v.c v.p v.q := by
    rw [armadaref07_Bump.j2, if_neg (by simp), mc, wsucc i (by omega)]; rfl
  have cf := rcheck_f x.f0 x.f1 x.f2 x.f3 x.f4 (k + 1) (by omega)
  change _ = some (vr x).ok at cf
  rw [armadaref07_Bump.l0, if_pos (by omega), if_pos (by omega), hx, cf]
  simp only [Option.bind_some]
  have mid : ((vr x).ok = true ∧ compareZ (vr x) v > 0 → armadaref07_Bump.j2 (k + 1) l L (i : Int) (!(vr x).ok) v.a v.b v.c v.p v.q x.f0 x.f1 x.f2 x.f3 x.f4 = some (x.f0, x.f1, x.f2, x.f3, x.f4, 0)) ∧
      (¬ ((vr x).ok = true ∧ compareZ (vr x) v > 0) → armadaref07_Bump.j2 (k + 1) l L (i : Int) (!(vr x).ok) v.a v.b v.c v.p v.q x.f0 x.f1 x.f2 x.f3 x.f4 = armadaref07_Bump.l0 k l L ((i + 1 : Nat) : Int) v.a v.b v.c v.p v.q) := by
    cases (vr x).ok with
    | true =>
      rw [show (!true) = false from rfl, jf]
      exact ⟨fun h => if_pos h.2, fun h => if_neg fun g => h ⟨rfl, g⟩⟩
    | false =>
      rw [show (!false) = true from rfl, jt]
      exact ⟨fun h => (by cases h.1), fun _ => rfl⟩
  by_cases c2 : l ≥ 2
  · rw [if_pos c2]
    by_cases f2 : x.f2 = 0
    · rw [if_pos f2]
      by_cases c3 : l = 3
      · rw [if_pos c3]
        by_cases f1 : x.f1 = 0
        · rw [if_pos f1]
          exact ⟨fun h => mid.1 h.2.2, fun h => mid.2 fun g => h ⟨fun q => q.2 f2, fun q => q.2 f1, g⟩⟩
        · rw [if_neg f1]
          exact ⟨fun h => absurd ⟨c3, f1⟩ h.2.1, fun _ => jt⟩
      · rw [if_neg c3]
        exact ⟨fun h => mid.1 h.2.2, fun h => mid.2 fun g => h ⟨fun q => q.2 f2, fun q => c3 q.1, g⟩⟩
    · rw [if_neg f2]
      exact ⟨fun h => absurd ⟨c2, f2⟩ h.1, fun _ => jt⟩
  · rw [if_neg c2, if_neg (by omega)]
    exact ⟨fun h => mid.1 h.2.2, fun h => mid.2 fun g => h ⟨fun q => c2 q.1, fun q => c2 (by omega), g⟩⟩
theorem rbump_f (v : Vr) (l : Int) (k : Nat) (hk : 4001000 ≤ k) : armadaref07_Bump.f k v.a v.b v.c v.p v.q l = some (outB (bumpZ v.a v.b v.c v.p v.q l)) := by
  obtain ⟨k, rfl⟩ : ∃ k', k = k' + 10 := ⟨k - 10, by omega⟩
  have bad : armadaref07_Bump.j0 (k + 10) l true v.a v.b v.c v.p v.q = some (outB (0, 0, 0, 1)) := by rw [armadaref07_Bump.j0, if_pos rfl]; rfl
  have no : ∀ h : ¬ (checkB v.a v.b v.c v.p v.q = true ∧ 1 ≤ l ∧ l ≤ 3), bumpZ v.a v.b v.c v.p v.q l = (0, 0, 0, 1) := fun h => by unfold bumpZ; rw [if_neg h]
  unfold armadaref07_Bump.f
  rw [rcheck_f _ _ _ _ _ _ (by omega)]
  simp only [Option.bind_some]
  by_cases hc : checkB v.a v.b v.c v.p v.q = true
  · rw [if_pos hc]
    by_cases l1 : l < 1
    · rw [if_pos l1, bad, no (fun h => by omega)]
    · rw [if_neg l1]
      by_cases l3 : l > 3
      · rw [decide_eq_true l3, bad, no (fun h => by omega)]
      · rw [decide_eq_false l3, armadaref07_Bump.j0, if_neg (by simp)]
        have ov : v.ok = true := hc
        obtain ⟨n1, n2, n3, _, _⟩ := check_nums hc
        have m1 := num_iff.1 n1
        have m2 := num_iff.1 n2
        have m3 := num_iff.1 n3
        have w1 : wrap64 (v.a + 1) = v.a + 1 := by unfold wrap64; omega
        have w2 : wrap64 (v.b + 1) = v.b + 1 := by unfold wrap64; omega
        have w3 : wrap64 (v.c + 1) = v.c + 1 := by unfold wrap64; omega
        rw [w1, w2, w3]
        obtain ⟨L, hL⟩ : ∃ L : List S23, L = [(⟨v.a, v.b, v.c, ⟨#[]⟩, ⟨#[]⟩⟩ : S23), ⟨v.a, v.b, v.c + 1, ⟨#[]⟩, ⟨#[]⟩⟩, ⟨v.a, v.b + 1, 0, ⟨#[]⟩, ⟨#[]⟩⟩, ⟨v.a + 1, 0, 0, ⟨#[]⟩, ⟨#[]⟩⟩] := ⟨_, rfl⟩
        rw [← hL]
        have len : L.length = 4 := by rw [hL]; rfl
        have s0 := rb_step l v L 0 ⟨v.a, v.b, v.c, ⟨#[]⟩, ⟨#[]⟩⟩ (by omega) (by omega) (by rw [hL]; rfl) (k + 7) (by omega)
        have s1 := rb_step l v L 1 ⟨v.a, v.b, v.c + 1, ⟨#[]⟩, ⟨#[]⟩⟩ (by omega) (by omega) (by rw [hL]; rfl) (k + 5) (by omega)
        have s2 := rb_step l v L 2 ⟨v.a, v.b + 1, 0, ⟨#[]⟩, ⟨#[]⟩⟩ (by omega) (by omega) (by rw [hL]; rfl) (k + 3) (by omega)
        have s3 := rb_step l v L 3 ⟨v.a + 1, 0, 0, ⟨#[]⟩, ⟨#[]⟩⟩ (by omega) (by omega) (by rw [hL]; rfl) (k + 1) (by omega)
        have s4 : armadaref07_Bump.l0 (k + 1) l L ((4 : Nat) : Int) v.a v.b v.c v.p v.q = some (outB (0, 0, 0, 15)) := by rw [armadaref07_Bump.l0, if_neg (by omega)]; rfl
        have z0' : ∀ x y : Int, x = y → ∀ d e : Int, (if cmpI x y = 0 then d else e) = d := fun x y h d e => if_pos (cmpI_zero.2 h)
        have zz : ∀ x : Int, cmpI (x + 1) x = 1 := fun x => by unfold cmpI; rw [if_neg (by omega), if_pos (by omega)]
        have t0 : tk l v ⟨v.a, v.b, v.c, ⟨#[]⟩, ⟨#[]⟩⟩ ↔ fitsZ v.b v.c v.p l := by
          have ok : (vr ⟨v.a, v.b, v.c, ⟨#[]⟩, ⟨#[]⟩⟩).ok = true := (check_rel _ _ _).2 ⟨n1, n2, n3⟩
          have ce : compareZ (vr ⟨v.a, v.b, v.c, ⟨#[]⟩, ⟨#[]⟩⟩) v = preZ ⟨#[]⟩ v.p := by
            rw [compareZ_ok ok ov]
            unfold ordV
            exact (z0' _ _ rfl _ _).trans ((z0' _ _ rfl _ _).trans (z0' _ _ rfl _ _))
          unfold tk fitsZ
          rw [ce, pre_up]
          show ¬ (l ≥ 2 ∧ v.c ≠ 0) ∧ ¬ (l = 3 ∧ v.b ≠ 0) ∧ _ ∧ _ ↔ _
          constructor
          · rintro ⟨g1, g2, _, g4⟩; exact ⟨g4, by omega, by omega⟩
          · rintro ⟨g1, g2, g3⟩; exact ⟨by omega, by omega, ok, g1⟩
        have t1 : tk l v ⟨v.a, v.b, v.c + 1, ⟨#[]⟩, ⟨#[]⟩⟩ ↔ l = 1 ∧ numB (v.c + 1) = true := by
          have okk : (vr ⟨v.a, v.b, v.c + 1, ⟨#[]⟩, ⟨#[]⟩⟩).ok = true ↔ numB v.a = true ∧ numB v.b = true ∧ numB (v.c + 1) = true := check_rel _ _ _
          unfold tk
          show ¬ (l ≥ 2 ∧ v.c + 1 ≠ 0) ∧ ¬ (l = 3 ∧ v.b ≠ 0) ∧ _ ∧ _ ↔ _
          constructor
          · rintro ⟨g1, _, g3, _⟩; exact ⟨by omega, (okk.1 g3).2.2⟩
          · rintro ⟨g1, g2⟩
            have ok := okk.2 ⟨n1, n2, g2⟩
            refine ⟨by omega, by omega, ok, ?_⟩
            have e : ordV (vr ⟨v.a, v.b, v.c + 1, ⟨#[]⟩, ⟨#[]⟩⟩) v = 1 := by
              unfold ordV
              refine (z0' _ _ rfl _ _).trans ((z0' _ _ rfl _ _).trans ?_)
              show (if cmpI (v.c + 1) v.c = 0 then _ else cmpI (v.c + 1) v.c) = 1
              rw [zz, if_neg (by omega)]
            rw [compareZ_ok ok ov, e]; omega
        have t2 : tk l v ⟨v.a, v.b + 1, 0, ⟨#[]⟩, ⟨#[]⟩⟩ ↔ l ≤ 2 ∧ numB (v.b + 1) = true := by
          have okk : (vr ⟨v.a, v.b + 1, 0, ⟨#[]⟩, ⟨#[]⟩⟩).ok = true ↔ numB v.a = true ∧ numB (v.b + 1) = true ∧ numB 0 = true := check_rel _ _ _
          unfold tk
          show ¬ (l ≥ 2 ∧ (0 : Int) ≠ 0) ∧ ¬ (l = 3 ∧ v.b + 1 ≠ 0) ∧ _ ∧ _ ↔ _
          constructor
          · rintro ⟨_, g2, g3, _⟩; exact ⟨by omega, (okk.1 g3).2.1⟩
          · rintro ⟨g1, g2⟩
            have ok := okk.2 ⟨n1, g2, num_iff.2 ⟨by omega, by omega⟩⟩
            refine ⟨by omega, by omega, ok, ?_⟩
            have e : ordV (vr ⟨v.a, v.b + 1, 0, ⟨#[]⟩, ⟨#[]⟩⟩) v = 1 := by
              unfold ordV
              refine (z0' _ _ rfl _ _).trans ?_
              show (if cmpI (v.b + 1) v.b = 0 then _ else cmpI (v.b + 1) v.b) = 1
              rw [zz, if_neg (by omega)]
            rw [compareZ_ok ok ov, e]; omega
        have t3 : tk l v ⟨v.a + 1, 0, 0, ⟨#[]⟩, ⟨#[]⟩⟩ ↔ numB (v.a + 1) = true := by
          have okk : (vr ⟨v.a + 1, 0, 0, ⟨#[]⟩, ⟨#[]⟩⟩).ok = true ↔ numB (v.a + 1) = true ∧ numB 0 = true ∧ numB 0 = true := check_rel _ _ _
          unfold tk
          show ¬ (l ≥ 2 ∧ (0 : Int) ≠ 0) ∧ ¬ (l = 3 ∧ (0 : Int) ≠ 0) ∧ _ ∧ _ ↔ _
          constructor
          · rintro ⟨_, _, g3, _⟩; exact (okk.1 g3).1
          · intro g2
            have ok := okk.2 ⟨g2, num_iff.2 ⟨by omega, by omega⟩, num_iff.2 ⟨by omega, by omega⟩⟩
            refine ⟨by omega, by omega, ok, ?_⟩
            have e : ordV (vr ⟨v.a + 1, 0, 0, ⟨#[]⟩, ⟨#[]⟩⟩) v = 1 := by
              unfold ordV
              show (if cmpI (v.a + 1) v.a = 0 then _ else cmpI (v.a + 1) v.a) = 1
              rw [zz, if_neg (by omega)]
            rw [compareZ_ok ok ov, e]; omega
        have fA : armadaref07_Bump.l0 (k + 3) l L ((3 : Nat) : Int) v.a v.b v.c v.p v.q = some (outB (stepA v.a)) := by
          unfold stepA
          by_cases h : numB (v.a + 1) = true
          · rw [if_pos h]; exact s3.1 (t3.2 h)
          · rw [if_neg h]; exact (s3.2 fun g => h (t3.1 g)).trans s4
        have fB : armadaref07_Bump.l0 (k + 5) l L ((2 : Nat) : Int) v.a v.b v.c v.p v.q = some (outB (if l ≤ 2 then stepB v.a v.b else stepA v.a)) := by
          by_cases l2 : l ≤ 2
          · rw [if_pos l2]
            unfold stepB
            by_cases h : numB (v.b + 1) = true
            · rw [if_pos h]; exact s2.1 (t2.2 ⟨l2, h⟩)
            · rw [if_neg h]; exact (s2.2 fun g => h (t2.1 g).2).trans fA
          · rw [if_neg l2]; exact (s2.2 fun g => l2 (t2.1 g).1).trans fA
        have fC : armadaref07_Bump.l0 (k + 7) l L ((1 : Nat) : Int) v.a v.b v.c v.p v.q = some (outB (if l = 1 then stepC v.a v.b v.c else (if l = 2 then stepB v.a v.b else stepA v.a))) := by
          by_cases l2 : l = 1
          · rw [if_pos l2]
            unfold stepC
            by_cases h : numB (v.c + 1) = true
            · rw [if_pos h]; exact s1.1 (t1.2 ⟨l2, h⟩)
            · rw [if_neg h]; exact (s1.2 fun g => h (t1.1 g).2).trans (fB.trans (by rw [if_pos (by omega)]))
          · rw [if_neg l2]
            refine (s1.2 fun g => l2 (t1.1 g).1).trans (fB.trans ?_)
            by_cases l4 : l = 2
            · rw [if_pos l4, if_pos (by omega)]
            · rw [if_neg l4, if_neg (by omega)]
        unfold bumpZ
        rw [if_pos ⟨hc, by omega, by omega⟩]
        by_cases hf : fitsZ v.b v.c v.p l
        · rw [if_pos hf]; exact s0.1 (t0.2 hf)
        · rw [if_neg hf]; exact (s0.2 fun g => hf (t0.1 g)).trans fC
  · rw [if_neg hc, bad, no (fun h => hc h.1)]
end Go.Proofs.YthoiepkejhhcoaaDoor.P
