/- DiskErrors, plainly. -/
import Derived.Test.YtnoafmnjnmlhmaaZDEM4
import Derived.Test.YtnoafmnjnmlhmaaZDEPureDiskRuns
set_option linter.unusedVariables false
set_option linter.unusedSimpArgs false
namespace Go.Proofs.Ytnoafmnjnmlhmaa.Pure
open Go.RowKit Go.Proofs.YtnoafmnjnmlhmaaW.PrintWords Go.Proofs.YtnoafmnjnmlhmaaW.PrintLast Go.Proofs.YtnoafmnjnmlhmaaW.PrintMore Go.Proofs.Ytnoafmnjnmlhmaa.P
/-- An act that tells an error. -/
def badA (n : Nat) (x : S49) : Bool := !x.f0 && (decide (x.f1 < 0) || (decide ((n : Int) ≤ x.f1) || decide (32 < x.f2.size)))
theorem step_bad {s : List ByteArray} {c : List S27} (x : S49) (h : mayB s c = true) : (stepZ s c x).2.2 = 0 ↔ badA s.length x = false := by
  unfold stepZ badA
  by_cases hf : x.f0 = true
  · rw [if_pos hf, hf]
    unfold flushZ
    rw [if_pos h]
    simp
  · rw [if_neg hf, Bool.eq_false_iff.mpr hf]
    unfold putZ
    rw [h, Bool.true_and]
    unfold isB
    by_cases h0 : x.f1 < 0
    · rw [decide_eq_false (show ¬ 0 ≤ x.f1 by omega), Bool.false_and, if_neg (by decide), decide_eq_true h0]; simp
    · rw [decide_eq_true (show 0 ≤ x.f1 by omega), Bool.true_and, decide_eq_false h0]
      by_cases h1 : x.f1 < (s.length : Int)
      · rw [decide_eq_true h1, if_pos rfl, decide_eq_false (show ¬ (s.length : Int) ≤ x.f1 by omega)]
        by_cases h2 : x.f2.size ≤ 32
        · rw [if_pos h2, decide_eq_false (by omega)]; simp
        · rw [if_neg h2, decide_eq_true (by omega)]; simp
      · rw [decide_eq_false h1, if_neg (by decide), decide_eq_true (show (s.length : Int) ≤ x.f1 by omega)]; simp
/-- The place of the first bad act. -/
def fb (n : Nat) : List S49 → Nat
  | [] => 0
  | x :: l => if badA n x = true then 0 else fb n l + 1
theorem run_fb (s0 : List ByteArray) (c0 : List S27) : ∀ (l : List S49) (s : List ByteArray) (c : List S27), mayB s c = true →
    (runL s0 c0 (l.take (fb s.length l)) s c).2.2 = 0 ∧ mayB (runL s0 c0 (l.take (fb s.length l)) s c).1 (runL s0 c0 (l.take (fb s.length l)) s c).2.1 = true ∧
    ((runL s0 c0 l s c).2.2 = 0 ↔ fb s.length l = l.length) ∧ ((runL s0 c0 l s c).2.2 ≠ 0 → (runL s0 c0 l s c).1 = s0 ∧ (runL s0 c0 l s c).2.1 = c0)
  | [], s, c, h => ⟨rfl, h, ⟨fun _ => rfl, fun _ => rfl⟩, fun h => absurd rfl h⟩
  | x :: l, s, c, h => by
    rw [fb]
    by_cases hb : badA s.length x = true
    · rw [if_pos hb, List.take_zero]
      have he : ¬ (stepZ s c x).2.2 = 0 := fun e => by rw [(step_bad x h).1 e] at hb; cases hb
      refine ⟨rfl, h, ?_, ?_⟩
      · rw [runL, if_neg he, List.length_cons]; exact ⟨fun e => absurd e he, fun e => by omega⟩
      · rw [runL, if_neg he]; exact fun _ => ⟨rfl, rfl⟩
    · rw [if_neg hb, List.take_succ_cons, runL, runL]
      have he : (stepZ s c x).2.2 = 0 := (step_bad x h).2 (Bool.eq_false_iff.mpr hb)
      obtain ⟨g1, g2, g3⟩ := step_may x h he
      rw [if_pos he, if_pos he]
      have ih := run_fb s0 c0 l _ (stepZ s c x).2.1 g1
      rw [g2] at ih
      exact ⟨ih.1, ih.2.1, by rw [ih.2.2.1, List.length_cons]; omega, ih.2.2.2⟩
theorem wpred (i : Nat) (h : i < 9223372036854775807) : wrap64 (((i + 1 : Nat) : Int) - 1) = (i : Int) := by unfold wrap64; omega
/-- What is done behind the loop. -/
def errTail (k : Nat) (l : List S49) (x5 : Int) (s : List ByteArray) (c : List S27) : Option Bool :=
  armadalaw01_DiskErrors.l0 (k + 1) l x5 (-1) s c
theorem err_l0 (s : List ByteArray) (c : List S27) (l : List S49) (hl : l.length ≤ 200) (v : Bool) : ∀ (i k : Nat), i ≤ l.length → (∀ k', k ≤ k' + i + 1 → errTail k' l ((fb s.length l : Nat) : Int) s c = some v) →
    i + 1 ≤ k → armadalaw01_DiskErrors.l0 k l (((i + fb s.length (l.drop i)) : Nat) : Int) (wrap64 ((i : Int) - 1)) s c = some v
  | 0, k, hi, ht, hk => by
    obtain ⟨k, rfl⟩ : ∃ k', k = k' + 1 := ⟨k - 1, by omega⟩
    have h := ht k (by omega)
    unfold errTail at h
    rw [List.drop_zero, Nat.zero_add, show wrap64 (((0 : Nat) : Int) - 1) = -1 by unfold wrap64; omega]
    exact h
  | i + 1, k, hi, ht, hk => by
    obtain ⟨k, rfl⟩ : ∃ k', k = k' + 1 := ⟨k - 1, by omega⟩
    have ih := err_l0 s c l hl v i k (by omega) (fun k' hk' => ht k' (by omega)) (by omega)
    obtain ⟨x, r, hxr⟩ : ∃ x r, l.drop i = x :: r := ⟨_, _, List.drop_eq_getElem_cons (show i < l.length by omega)⟩
    obtain ⟨hx, -, hd⟩ := rdA_drop hxr
    have hw := wpred i (by omega)
    rw [hxr, fb] at ih
    rw [hw, armadalaw01_DiskErrors.l0, if_pos (by omega), if_pos (by omega), if_pos (by omega), hx, hd]
    unfold badA at ih
    by_cases hf : x.f0 = true
    · rw [hf] at ih ⊢
      rw [if_pos rfl]
      rw [if_neg (by simp)] at ih
      rw [show i + 1 + fb s.length r = i + (fb s.length r + 1) by omega]; exact ih
    · rw [Bool.eq_false_iff.mpr hf] at ih ⊢
      rw [if_neg (by decide)]
      simp only [Bool.not_false, Bool.true_and] at ih
      by_cases h0 : x.f1 < 0
      · rw [if_pos h0]; rw [decide_eq_true h0, Bool.true_or, if_pos rfl, Nat.add_zero] at ih; exact ih
      · rw [if_neg h0]; rw [decide_eq_false h0, Bool.false_or] at ih
        by_cases h1 : x.f1 ≥ (s.length : Int)
        · rw [if_pos h1]; rw [decide_eq_true (show (s.length : Int) ≤ x.f1 from h1), Bool.true_or, if_pos rfl, Nat.add_zero] at ih; exact ih
        · rw [if_neg h1]; rw [decide_eq_false (show ¬ (s.length : Int) ≤ x.f1 from h1), Bool.false_or] at ih
          by_cases h2 : 32 < x.f2.size
          · rw [if_pos (by omega)]; rw [decide_eq_true h2, if_pos rfl, Nat.add_zero] at ih; exact ih
          · rw [if_neg (by omega)]; rw [decide_eq_false h2, if_neg (by decide)] at ih
            rw [show i + 1 + fb s.length r = i + (fb s.length r + 1) by omega]; exact ih
theorem err_tail (k : Nat) (s : List ByteArray) (c : List S27) (l : List S49) (hs : s.length ≤ 600) (hc : c.length ≤ 200) (hl : l.length ≤ 200) (hm : mayB s c = true) (hk : 8000 ≤ k) : errTail k l ((fb s.length l : Nat) : Int) s c = some true := by
  have fin : ((armadalaw01_live.f k).bind fun t => some t) = some true := by rw [live_f k (by omega)]; rfl
  have ht : (l.take (fb s.length l)).length ≤ l.length := List.length_take_le' _ _
  have e1 : l.take ((l.length : Int)).toNat = l := by rw [Int.toNat_natCast, List.take_of_length_le (Nat.le_refl _)]
  have f1 := runZ_len2 s c (l.take (fb s.length l))
  have f2 := runZ_len2 s c l
  obtain ⟨g1, g2, g3, g4⟩ := run_fb s c l s c hm
  have hA : runZ s c (l.take (fb s.length l)) = runL s c (l.take (fb s.length l)) s c := if_pos hm
  have hB : runZ s c l = runL s c l s c := if_pos hm
  unfold errTail
  rw [armadalaw01_DiskErrors.l0, if_neg (by omega), run_f s c l _ (by omega) (by omega) (by omega) k (by omega), Int.toNat_natCast]
  simp only [Option.bind_some]
  rw [run_f s c l _ (by omega) (by omega) (by omega) k (by omega), e1]
  simp only [Option.bind_some]
  rw [hA] at f1 ⊢
  rw [hB] at f2 ⊢
  rw [if_pos g1, may_f _ _ (by omega) (by omega) k (by omega)]
  simp only [Option.bind_some]
  rw [if_pos g2]
  by_cases he : (runL s c l s c).2.2 = 0
  · rw [if_pos (by rw [he, g3.1 he]; simp), if_pos he]; exact fin
  · have hne : ¬ fb s.length l = l.length := fun h => he (g3.2 h)
    have q1 : ((runL s c l s c).2.2 == 0) = false := beq_eq_false_iff_ne.2 he
    have q2 : (((fb s.length l : Nat) : Int) == (l.length : Int)) = false := beq_eq_false_iff_ne.2 (by omega)
    rw [q1, q2, if_pos (show (false == false) = true from rfl), if_neg he, (g4 he).1, (g4 he).2, rsame_self s c (by omega) (by omega) k (by omega)]
    simp only [Option.bind_some, if_true]
    exact fin
theorem ej0t (k : Nat) (s : List ByteArray) (c : List S27) (l : List S49) (hk : 8000 ≤ k) : armadalaw01_DiskErrors.j0 (k + 1) l true s c = some true := by
  rw [armadalaw01_DiskErrors.j0, if_pos rfl, live_f k (by omega)]; rfl
theorem ej0 (k : Nat) (s : List ByteArray) (c : List S27) (l : List S49) (hs : s.length ≤ 600) (hc : c.length ≤ 200) (hl : l.length ≤ 200) (hm : mayB s c = true) (hk : 9000 ≤ k) : armadalaw01_DiskErrors.j0 (k + 1) l false s c = some true := by
  rw [armadalaw01_DiskErrors.j0, if_neg (by decide)]
  have h := err_l0 s c l hl true l.length k (Nat.le_refl _) (fun k' hk' => err_tail k' s c l hs hc hl hm (by omega)) (by omega)
  rw [List.drop_of_length_le (Nat.le_refl _)] at h
  exact h
theorem DiskErrors (s : List ByteArray) (c : List S27) (l : List S49) (hs : s.length ≤ 9223372036854775807) (hc : c.length ≤ 9223372036854775807) (hl : l.length ≤ 9223372036854775807) : ∃ k, armadalaw01_DiskErrors.f k s c l = some true := by
  refine ⟨s.length + c.length + l.length + 9000 + 1, ?_⟩
  unfold armadalaw01_DiskErrors.f
  rw [small_f s c hs hc _ (by omega)]
  simp only [Option.bind_some]
  by_cases hm : smallB s c = true
  · obtain ⟨l1, l2, -, -⟩ := smallB_lim hm
    rw [if_pos hm, few_f l hl _ (by omega)]
    simp only [Option.bind_some]
    by_cases hf : fewB l = true
    · obtain ⟨l3, l4⟩ := fewB_lim hf
      rw [if_pos hf, may_f s c hs hc _ (by omega)]
      simp only [Option.bind_some]
      by_cases hmay : mayB s c = true
      · rw [hmay]; exact ej0 _ s c l l1 l2 l3 hmay (by omega)
      · rw [Bool.eq_false_iff.mpr hmay]; exact ej0t _ s c l (by omega)
    · rw [if_neg hf]; exact ej0t _ s c l (by omega)
  · rw [if_neg hm]; exact ej0t _ s c l (by omega)
end Go.Proofs.Ytnoafmnjnmlhmaa.Pure
