/- A sum's low half is one more than all bytes together, its high half that of the sums of all beginnings: of one byte over and over; for every two numbers (those that are no byte, or no number from 0 to 60000, are let out by the statement itself). -/
import Derived.Test.YtgjgdahjjegbiaaSumB
import Derived.Test.YtgjgdahjjegbiaaPx2
namespace Go.Proofs.Ytgjgdahjjegbiaa.Pure
open Go.RowKit Go.Proofs.Ytgjgdahjjegbiaa.P Go.Proofs.YtgjgdahjjegbiaaW.PrintWords Go.Proofs.Ytgjgdahjjegbiaa.Pl

theorem live_at2 (k : Nat) (h : 12 ≤ k) : armadalaw02_live.f k = some true :=
  at_rounds armadalaw02_live.mono h (by decide +kernel)
theorem fill_set (n i : Nat) (b : Int) (h : i < n) : (List.replicate i b ++ List.replicate (n - i) (0 : Int)).set i b = List.replicate (i + 1) b ++ List.replicate (n - (i + 1)) 0 := by
  obtain ⟨m, rfl⟩ : ∃ m, n = i + 1 + m := ⟨n - (i + 1), by omega⟩
  rw [show i + 1 + m - i = m + 1 by omega, show i + 1 + m - (i + 1) = m by omega, List.replicate_succ, List.set_append_right _ _ (by simp)]
  simp [List.replicate_succ', List.append_assoc]
theorem halves_end (b : Int) (n k : Nat) (hb : 0 ≤ b ∧ b ≤ 255) (hn : n ≤ 60000) (hk : n + 13 ≤ k) :
    armadalaw02_SumHalves.l0 (k + 1) b (n : Int) (List.replicate n b) (n : Int) = some true := by
  simp only [armadalaw02_SumHalves.l0]
  rw [if_neg (by omega)]
  have hs : (strOfNums (List.replicate n b)).size = n := by
    have := bs_strOfNums (List.replicate n b) (by intro c hc; rw [(List.mem_replicate.1 hc).2]; exact hb)
    have h2 := bs_length (strOfNums (List.replicate n b))
    rw [this, List.length_replicate] at h2
    exact h2.symm
  rw [of_spec _ (by omega) _ (by omega), bs_strOfNums (List.replicate n b) (by intro c hc; rw [(List.mem_replicate.1 hc).2]; exact hb)]
  simp only [Option.bind_some]
  have hi := ofP_in (List.replicate n b)
  have nr := num_range hi
  have hc := ofP_closed (List.replicate n b)
  have m1 : (n : Int) * b ≤ 60000 * 255 := Int.mul_le_mul (by omega) hb.2 hb.1 (by omega)
  have m0 : 0 ≤ (n : Int) * b := Int.mul_nonneg (by omega) hb.1
  have q1 : (n : Int) * ((n : Int) + 1) ≤ 60000 * 60001 := Int.mul_le_mul (by omega) (by omega) (by omega) (by omega)
  have q0 : 0 ≤ (n : Int) * ((n : Int) + 1) := Int.mul_nonneg (by omega) (by omega)
  have qe : (n : Int) * ((n : Int) + 1) % 2 = 0 := by
    rw [Int.mul_emod]
    rcases (show (n : Int) % 2 = 0 ∨ (n : Int) % 2 = 1 by omega) with h | h
    · rw [h]; simp
    · rw [show ((n : Int) + 1) % 2 = 0 by omega]; simp
  have w2 := wsum_replicate n b
  have wv : wsum (List.replicate n b) = b * ((n : Int) * ((n : Int) + 1) / 2) := by
    have : (n : Int) * ((n : Int) + 1) = 2 * ((n : Int) * ((n : Int) + 1) / 2) := by omega
    rw [this] at w2
    generalize (n : Int) * ((n : Int) + 1) / 2 = t at *
    have e : b * (2 * t) = 2 * (b * t) := by grind
    rw [e] at w2
    omega
  have r1 : b * ((n : Int) * ((n : Int) + 1) / 2) ≤ 255 * (60000 * 60001) := Int.mul_le_mul hb.2 (by omega) (by omega) (by omega)
  have r0 : 0 ≤ b * ((n : Int) * ((n : Int) + 1) / 2) := Int.mul_nonneg hb.1 (by omega)
  rw [tmod_pos nr.1, num_low hi, tdiv_pos nr.1, num_high hi, hc, sum_replicate, List.length_replicate, wv]
  simp only
  have hi2 := hi
  rw [w64 (x := (n : Int) * b) (by omega) (by omega), w64 (x := 1 + _) (by omega) (by omega), tmod_pos (by omega), if_pos rfl, w64 (x := _ % 65521) (by omega) (by omega), w64 (x := (n : Int) + 1) (by omega) (by omega), w64 (x := (n : Int) * ((n : Int) + 1)) (by omega) (by omega), tdiv_pos q0,
    w64 (x := (n : Int) * ((n : Int) + 1) / 2) (by omega) (by omega), w64 (x := b * _) (by omega) (by omega), w64 (x := (n : Int) + _) (by omega) (by omega), tmod_pos (x := (n : Int) + _) (by omega), if_pos rfl, live_at2 _ (by omega)]
  rfl
theorem halves_l0 (b : Int) (n : Nat) (hb : 0 ≤ b ∧ b ≤ 255) (hn : n ≤ 60000) (d : Nat) : ∀ k i : Nat, i ≤ n → n - i = d → d + n + 13 ≤ k →
    armadalaw02_SumHalves.l0 (k + 1) b (n : Int) (List.replicate i b ++ List.replicate (n - i) 0) (i : Int) = some true := by
  induction d with
  | zero =>
    intro k i h1 hd hk
    obtain rfl : i = n := by omega
    rw [Nat.sub_self, List.replicate_zero, List.append_nil]
    exact halves_end b i k hb hn (by omega)
  | succ d ih =>
    intro k i h1 hd hk
    obtain ⟨k, rfl⟩ : ∃ m, k = m + 1 := ⟨k - 1, by omega⟩
    have := ih k (i + 1) (by omega) (by omega) (by omega)
    rw [armadalaw02_SumHalves.l0, if_pos (by omega), if_pos (by omega), if_pos (by simp; omega), show ((i : Int)).toNat = i from rfl, show b % 256 = b by omega, fill_set n i b (by omega), w64 (by omega) (by omega)]
    exact this
theorem SumHalves : armadalaw02_SumHalves.Pure := by
  intro b n _ _
  refine ⟨2 * n.toNat + 20, ?_⟩
  have hl := live_at2 (2 * n.toNat + 19) (by omega)
  have out : armadalaw02_SumHalves.j0 (2 * n.toNat + 20) b n true = some true := by
    simp only [armadalaw02_SumHalves.j0, if_true]
    rw [hl]; rfl
  unfold armadalaw02_SumHalves.f
  by_cases h1 : b < 0
  · rw [if_pos h1]; exact out
  · rw [if_neg h1]
    by_cases h2 : b > 255
    · rw [if_pos h2]; exact out
    · rw [if_neg h2]
      by_cases h3 : n < 0
      · rw [if_pos h3]; exact out
      · rw [if_neg h3]
        by_cases h4 : n > 60000
        · simp only [h4, decide_true]; exact out
        · simp only [armadalaw02_SumHalves.j0, h4, decide_false]
          obtain ⟨m, rfl⟩ := Int.eq_ofNat_of_zero_le (show 0 ≤ n by omega)
          rw [if_neg (by simp), if_pos (by omega), show ((m : Int)).toNat = m from rfl, if_pos (by omega)]
          exact halves_l0 b m (by omega) (by omega) m (2 * m + 18) 0 (by omega) (by omega) (by omega)
end Go.Proofs.Ytgjgdahjjegbiaa.Pure
