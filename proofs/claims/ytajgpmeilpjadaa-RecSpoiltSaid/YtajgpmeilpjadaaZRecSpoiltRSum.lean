/- What the sum's functions come to, as folds over the bytes; and plain arithmetic of such folds. -/
import Derived.Test.YtajgpmeilpjadaaZRecSpoiltM0
import Derived.Test.YtajgpmeilpjadaaZRecSpoiltBs
set_option linter.unusedVariables false
set_option linter.unusedSimpArgs false
namespace Go.Proofs.Ytajgpmeilpjadaa.Pl
open Go.RowKit Go.Proofs.Ytajgpmeilpjadaa.P Go.Proofs.YtajgpmeilpjadaaW.PrintWords
/-- One byte rolled in: (high, low). -/
def stepR (s : Int × Int) (c : Int) : Int × Int := ((s.1 + (s.2 + c) % 65521) % 65521, (s.2 + c) % 65521)
def rollP (s : Int × Int) (l : List Int) : Int × Int := l.foldl stepR s
/-- A pair is within. -/
def InP (s : Int × Int) : Prop := 0 ≤ s.1 ∧ s.1 < 65521 ∧ 0 ≤ s.2 ∧ s.2 < 65521
theorem stepR_in {s : Int × Int} (c : Int) : InP (stepR s c) := by unfold InP stepR; simp only; omega
def num (s : Int × Int) : Int := s.1 * 65536 + s.2
theorem roll_l0 (s : ByteArray) (hs : s.size ≤ 140737488351232) (d : Nat) : ∀ (k i : Nat) (p : Int × Int), InP p → i ≤ s.size → s.size - i = d → d < k →
    sum_Roll.l0 k s p.1 p.2 (s.size : Int) (i : Int) = some (num (rollP p ((bs s).drop i))) := by
  induction d with
  | zero =>
    intro k i p hp h1 hd hk
    obtain ⟨k, rfl⟩ : ∃ m, k = m + 1 := ⟨k - 1, by omega⟩
    simp only [sum_Roll.l0]
    rw [if_neg (by omega), List.drop_of_length_le (by rw [bs_length]; omega)]
    unfold InP at hp
    rw [w64 (x := p.1 * 65536) (by omega) (by omega), w64 (by omega) (by omega)]
    rfl
  | succ d ih =>
    intro k i p hp h1 hd hk
    obtain ⟨k, rfl⟩ : ∃ m, k = m + 1 := ⟨k - 1, by omega⟩
    have hb := bt_range s (i : Int)
    simp only [sum_Roll.l0]
    rw [if_pos (by omega), if_pos (by omega), if_pos (by omega), bs_drop s i (by omega)]
    have hp' := hp
    unfold InP at hp'
    rw [w64 (x := bt s i) (by omega) (by omega), w64 (x := p.2 + bt s i) (by omega) (by omega), tmod_pos (x := p.2 + bt s i) (by omega), w64 (x := p.1 + _) (by omega) (by omega), tmod_pos (by omega), w64 (x := (i : Int) + 1) (by omega) (by omega)]
    have := ih k (i + 1) (stepR p (bt s i)) (stepR_in _) (by omega) (by omega) (by omega)
    exact this
/-- What Roll comes to at any number. -/
def rollSpec (n : Int) (l : List Int) : Int := if 0 ≤ n ∧ n / 65536 < 65521 ∧ n % 65536 < 65521 then num (rollP (n / 65536, n % 65536) l) else 0
theorem halves_spec (n : Int) (h1 : -9223372036854775808 ≤ n) (h2 : n ≤ 9223372036854775807) : ∃ a b, sum_halves.f n = some (a, b, decide (0 ≤ n ∧ n / 65536 < 65521 ∧ n % 65536 < 65521)) ∧ (0 ≤ n → a = n / 65536 ∧ b = n % 65536) := by
  refine ⟨wrap64 (Int.tdiv n 65536), Int.tmod n 65536, ?_, ?_⟩
  · unfold sum_halves.f
    by_cases h0 : 0 ≤ n
    · rw [if_pos h0, tdiv_pos h0, tmod_pos h0, w64 (by omega) (by omega)]
      by_cases h3 : n / 65536 < 65521
      · rw [if_pos h3]; simp [h0, h3]
      · rw [if_neg h3]; simp [h3]
    · rw [if_neg (by omega)]
      simp [h0]
  · intro h0
    rw [tdiv_pos h0, tmod_pos h0, w64 (by omega) (by omega)]
    exact ⟨rfl, rfl⟩
theorem roll_spec (n : Int) (s : ByteArray) (h1 : -9223372036854775808 ≤ n) (h2 : n ≤ 9223372036854775807) (hs : s.size ≤ 140737488351232) (k : Nat) (hk : s.size < k) :
    sum_Roll.f k n s = some (rollSpec n (bs s)) := by
  obtain ⟨a, b, e, hab⟩ := halves_spec n h1 h2
  unfold sum_Roll.f
  rw [e]
  simp only [Option.bind_some]
  by_cases hc : 0 ≤ n ∧ n / 65536 < 65521 ∧ n % 65536 < 65521
  · rw [if_pos (by simpa using hc)]
    obtain ⟨rfl, rfl⟩ := hab hc.1
    have := roll_l0 s hs s.size k 0 (n / 65536, n % 65536) (by unfold InP; simp only; omega) (by omega) (by omega) hk
    simp only [List.drop_zero] at this
    rw [rollSpec, if_pos hc]
    exact this
  · rw [if_neg (by simpa using hc), rollSpec, if_neg hc]
end Go.Proofs.Ytajgpmeilpjadaa.Pl
