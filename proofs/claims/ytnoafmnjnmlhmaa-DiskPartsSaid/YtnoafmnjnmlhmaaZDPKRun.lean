/- disk: runs, plainly. -/
import Derived.Test.YtnoafmnjnmlhmaaZDPM2
import Derived.Test.YtnoafmnjnmlhmaaZDPM1
import Derived.Test.YtnoafmnjnmlhmaaZDPKPlain2
set_option linter.unusedVariables false
set_option linter.unusedSimpArgs false
namespace Go.Proofs.Ytnoafmnjnmlhmaa.P
open Go.RowKit Go.Proofs.YtnoafmnjnmlhmaaW.PrintWords Go.Proofs.YtnoafmnjnmlhmaaW.PrintLast Go.Proofs.YtnoafmnjnmlhmaaW.PrintMore
def stepZ (s : List ByteArray) (c : List S27) (x : S49) : List ByteArray × List S27 × Int := if x.f0 = true then flushZ s c else putZ s c x.f1 x.f2
/-- The acts, one behind the other; at the first error what was at the beginning. -/
def runL (s0 : List ByteArray) (c0 : List S27) : List S49 → List ByteArray → List S27 → List ByteArray × List S27 × Int
  | [], s, c => (s, c, 0)
  | x :: r, s, c => if (stepZ s c x).2.2 = 0 then runL s0 c0 r (stepZ s c x).1 (stepZ s c x).2.1 else (s0, c0, (stepZ s c x).2.2)
def runZ (s : List ByteArray) (c : List S27) (l : List S49) : List ByteArray × List S27 × Int := if mayB s c = true then runL s c l s c else (s, c, 1)
theorem wrt_size (kb : Nat → Bool) : ∀ (r : List S27) (i : Nat) (row : List ByteArray), (∀ x ∈ row, x.size = 32) → (∀ x ∈ r, x.f1.size = 32) → ∀ x ∈ wrt kb i r row, x.size = 32
  | [], _, _, h, _ => h
  | y :: r, i, row, h, hr => by
    rw [wrt]
    refine wrt_size kb r (i + 1) _ ?_ (fun x hx => hr x (List.mem_cons_of_mem _ hx))
    intro x hx
    split at hx
    · rcases List.mem_or_eq_of_mem_set hx with h1 | h1
      · exact h x h1
      · rw [h1]; exact hr y List.mem_cons_self
    · exact h x hx
theorem mayB_mk {s : List ByteArray} {c : List S27} (h1 : 1 ≤ s.length) (h2 : s.length ≤ 512) (h3 : ∀ x ∈ s, x.size = 32) (h4 : ∀ x ∈ c, 0 ≤ x.f0 ∧ x.f0 < (s.length : Int) ∧ x.f1.size = 32) : mayB s c = true := by
  unfold mayB
  simp only [Bool.and_eq_true, decide_eq_true_eq, List.all_eq_true]
  exact ⟨h1, h2, fun x hx => by simpa [secB] using h3 x hx, fun x hx => by simpa [okW] using h4 x hx⟩
theorem mayB_wrt {s : List ByteArray} {c : List S27} (h : mayB s c = true) (kb : Nat → Bool) : mayB (wrt kb 0 c s) [] = true := by
  obtain ⟨h1, h2, h3⟩ := mayB_sec h
  refine mayB_mk (by rw [wrt_length]; exact h1) (by rw [wrt_length]; exact h2) (wrt_size kb c 0 s h3 (fun x hx => (mayB_wr h x hx).2.2)) (fun x hx => by cases hx)
theorem fil_size {x : ByteArray} (h : x.size ≤ 32) : (fil x).size = 32 := by
  unfold fil; rw [ByteArray.size_append, zerosB_size]; omega
theorem mayB_put {s : List ByteArray} {c : List S27} {a : Int} {x : ByteArray} (h : mayB s c = true) (ha : isB s a = true) (hx : x.size ≤ 32) : mayB s (c ++ [⟨a, fil x⟩]) = true := by
  obtain ⟨h1, h2, h3⟩ := mayB_sec h
  refine mayB_mk h1 h2 h3 ?_
  intro y hy
  rcases List.mem_append.1 hy with h4 | h4
  · exact mayB_wr h y h4
  · obtain rfl := List.mem_singleton.1 h4
    unfold isB at ha
    simp only [Bool.and_eq_true, decide_eq_true_eq] at ha
    exact ⟨ha.1, ha.2, fil_size hx⟩
/-- Behind an act without an error a disk may be, with no more sectors, and at most one write more. -/
theorem step_may {s : List ByteArray} {c : List S27} (x : S49) (h : mayB s c = true) (he : (stepZ s c x).2.2 = 0) : mayB (stepZ s c x).1 (stepZ s c x).2.1 = true ∧ (stepZ s c x).1.length = s.length ∧ (stepZ s c x).2.1.length ≤ c.length + 1 := by
  unfold stepZ at he ⊢
  by_cases hf : x.f0 = true
  · rw [if_pos hf] at he ⊢
    unfold flushZ
    rw [if_pos h]
    exact ⟨mayB_wrt h _, wrt_length _ _ _ _, Nat.zero_le _⟩
  · rw [if_neg hf] at he ⊢
    unfold putZ at he ⊢
    rw [h, Bool.true_and] at he ⊢
    by_cases hi : isB s x.f1 = true
    · rw [if_pos hi] at he ⊢
      by_cases hx : x.f2.size ≤ 32
      · rw [if_pos hx]
        exact ⟨mayB_put h hi hx, rfl, by simp⟩
      · rw [if_neg hx] at he; exact absurd he (by simp)
    · rw [if_neg hi] at he; exact absurd he (by simp)
theorem run_l0 (y : List S49) (s0 : List ByteArray) (c0 : List S27) (hy : y.length ≤ 100000) : ∀ (r : List S49) (i k : Nat) (s : List ByteArray) (c : List S27), y.drop i = r → i ≤ y.length → s.length ≤ 1000 → c.length + r.length ≤ 100000 → r.length + s.length + c.length + r.length + 20 ≤ k → mayB s c = true →
    disk_Run.l0 k y (y.length : Int) (i : Int) s0 c0 s c = some (runL s0 c0 r s c)
  | [], i, k, s, c, hr, hi, hs, hc, hk, hm => by
    obtain ⟨k, rfl⟩ : ∃ k', k = k' + 1 := ⟨k - 1, by omega⟩
    have := drop_nil_len hr hi
    subst this
    rw [disk_Run.l0, if_neg (by omega)]; rfl
  | x :: r, i, k, s, c, hr, hi, hs, hc, hk, hm => by
    obtain ⟨k, rfl⟩ : ∃ k', k = k' + 1 := ⟨k - 1, by omega⟩
    obtain ⟨hx, hlt, hd⟩ := rdA_drop hr
    rw [List.length_cons] at hk hc
    rw [disk_Run.l0, if_pos (by omega), if_pos (by omega), if_pos (by omega), hx, wsucc i (by omega), runL]
    have go : ∀ z, stepZ s c x = z → (if z.2.2 = 0 then disk_Run.l0 k y (y.length : Int) ((i + 1 : Nat) : Int) s0 c0 z.1 z.2.1 else some (s0, c0, z.2.2)) = some (if z.2.2 = 0 then runL s0 c0 r z.1 z.2.1 else (s0, c0, z.2.2)) := by
      rintro z rfl
      by_cases he : (stepZ s c x).2.2 = 0
      · obtain ⟨g1, g2, g3⟩ := step_may x hm he
        rw [if_pos he, if_pos he]
        exact run_l0 y s0 c0 hy r (i + 1) k _ _ hd (by omega) (by omega) (by omega) (by omega) g1
      · rw [if_neg he, if_neg he]
    by_cases hf : x.f0 = true
    · rw [if_pos hf, flush_f]
      simp only [Option.bind_some]
      rw [show flushZ s c = stepZ s c x from (if_pos hf).symm]
      exact go _ rfl
    · rw [if_neg hf, put_f s c x.f1 x.f2 (by omega) (by omega) k (by omega)]
      simp only [Option.bind_some]
      rw [show putZ s c x.f1 x.f2 = stepZ s c x from (if_neg hf).symm]
      exact go _ rfl
theorem run_f (s : List ByteArray) (c : List S27) (l : List S49) (n : Int) (hs : s.length ≤ 1000) (hc : c.length ≤ 50000) (hl : l.length ≤ 50000) (k : Nat) (hk : s.length + c.length + 2 * l.length + 60 ≤ k) : disk_Run.f k s c l n = some (runZ s c (l.take n.toNat)) := by
  unfold disk_Run.f runZ
  rw [may_f s c (by omega) (by omega) _ (by omega)]
  simp only [Option.bind_some]
  by_cases hm : mayB s c = true
  · rw [if_pos hm, if_pos hm]
    have hq : mn (mx n 0) (l.length : Int) = ((min n.toNat l.length : Nat) : Int) := by unfold mn mx; split <;> split <;> omega
    rw [hq, if_pos (by omega), if_pos (by omega), Int.toNat_natCast]
    have ht : l.take (min n.toNat l.length) = l.take n.toNat := by
      rcases Nat.le_total n.toNat l.length with h | h
      · rw [Nat.min_eq_left h]
      · rw [Nat.min_eq_right h, List.take_of_length_le (Nat.le_refl _), List.take_of_length_le h]
    rw [ht]
    have hz : (l.take n.toNat).length ≤ l.length := List.length_take_le' _ _
    have h := run_l0 (l.take n.toNat) s c (by omega) (l.take n.toNat) 0 k s c rfl (Nat.zero_le _) (by omega) (by omega) (by omega) hm
    rw [Int.natCast_zero] at h
    exact h
  · rw [if_neg hm, if_neg hm]
theorem runZ_len (s : List ByteArray) (c : List S27) : ∀ (l : List S49) (s' : List ByteArray) (c' : List S27), mayB s' c' = true → (runL s c l s' c').2.2 = 0 → mayB (runL s c l s' c').1 (runL s c l s' c').2.1 = true ∧ (runL s c l s' c').1.length = s'.length ∧ (runL s c l s' c').2.1.length ≤ c'.length + l.length
  | [], s', c', h, _ => ⟨h, rfl, by simp [runL]⟩
  | x :: r, s', c', h, he => by
    rw [runL] at he ⊢
    by_cases h1 : (stepZ s' c' x).2.2 = 0
    · rw [if_pos h1] at he ⊢
      obtain ⟨g1, g2, g3⟩ := step_may x h h1
      obtain ⟨k1, k2, k3⟩ := runZ_len s c r _ _ g1 he
      exact ⟨k1, by omega, by rw [List.length_cons]; omega⟩
    · rw [if_neg h1] at he; exact absurd he h1
end Go.Proofs.Ytnoafmnjnmlhmaa.P
