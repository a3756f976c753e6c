/- What stands behind bytes makes them whole blocks, as few as it takes, and tells how many bits they are: for every number. -/
import Derived.Test.YtkejacgedipoeaaPx51
import Derived.Test.YtkejacgedipoeaaDLive
import Derived.OpenShut
namespace Go.Proofs.Ytkejacgedipoeaa.Pure
open Go.RowKit Go.Proofs.Ytkejacgedipoeaa.P Go.Proofs.YtkejacgedipoeaaW.PrintWords Go.Proofs.YtkejacgedipoeaaW.PrintLast Go.Proofs.Ytkejacgedipoeaa.Pl

theorem padTo_range (n : Int) (j : Nat) : ∀ c ∈ padTo n j, 0 ≤ c ∧ c ≤ 255 := by
  induction j with
  | zero =>
    intro c hc
    rcases List.mem_cons.1 hc with rfl | h
    · omega
    · obtain rfl := List.eq_of_mem_replicate h; omega
  | succ j ih =>
    intro c hc
    rcases List.mem_append.1 hc with h | h
    · exact ih c h
    · obtain rfl := List.mem_singleton.1 h; omega
theorem padTo_old (n : Int) (j d i : Nat) (hi : i < 1 + zeroCount n + j) : (padTo n (j + d)).getD i 0 = (padTo n j).getD i 0 := by
  induction d with
  | zero => rfl
  | succ d ih =>
    rw [← ih]
    show (padTo n (j + d) ++ _).getD i 0 = _
    rw [List.getD_eq_getElem?_getD, List.getElem?_append_left (by rw [padTo_length]; omega), ← List.getD_eq_getElem?_getD]
theorem padTo_at (n : Int) (j : Nat) (hj : j < 8) : (padTo n 8).getD (1 + zeroCount n + j) 0 = 8 * n / 2 ^ (56 - 8 * j) % 256 := by
  have h := padTo_old n (j + 1) (7 - j) (1 + zeroCount n + j) (by omega)
  rw [show j + 1 + (7 - j) = 8 by omega] at h
  rw [h]
  show (padTo n j ++ _).getD _ 0 = _
  rw [List.getD_eq_getElem?_getD, List.getElem?_append_right (by rw [padTo_length]; omega), padTo_length]
  simp
theorem padTo_head (n : Int) : (padTo n 8).getD 0 0 = 128 := by
  rw [show (8 : Nat) = 0 + 8 from rfl, padTo_old n 0 8 0 (by omega)]
  rfl
theorem padTo_zero (n : Int) (i : Nat) (h1 : 1 ≤ i) (h2 : i ≤ zeroCount n) : (padTo n 8).getD i 0 = 0 := by
  rw [show (8 : Nat) = 0 + 8 from rfl, padTo_old n 0 8 i (by omega)]
  obtain ⟨j, rfl⟩ : ∃ j, i = j + 1 := ⟨i - 1, by omega⟩
  show (List.replicate (zeroCount n) (0 : Int)).getD j 0 = 0
  rw [List.getD_eq_getElem?_getD, List.getElem?_replicate]
  split <;> rfl
theorem fold_step (m : Int) (j : Nat) (hj : j < 8) : 256 * (m / 2 ^ (64 - 8 * j)) + m / 2 ^ (56 - 8 * j) % 256 = m / 2 ^ (64 - 8 * (j + 1)) := by
  rw [show 64 - 8 * (j + 1) = 56 - 8 * j by omega, show 64 - 8 * j = (56 - 8 * j) + 8 by omega, Int.pow_add]
  have hp : (0 : Int) ≤ 2 ^ (56 - 8 * j) := Int.le_of_lt (Int.pow_pos (by decide))
  rw [← Int.ediv_ediv_of_nonneg hp]
  generalize m / 2 ^ (56 - 8 * j) = q
  omega
theorem div_range (m : Int) (h0 : 0 ≤ m) (h1 : m ≤ 8796093022208) (e : Nat) : 0 ≤ m / 2 ^ e ∧ m / 2 ^ e ≤ 8796093022208 := by
  have hp : (0 : Int) < 2 ^ e := Int.pow_pos (by decide)
  exact ⟨Int.ediv_nonneg h0 (Int.le_of_lt hp), Int.le_trans (Int.ediv_le_self _ h0) h1⟩
theorem pads_l0 (n : Int) (h0 : 0 ≤ n) (h1 : n ≤ 1099511627776) (d : Nat) : ∀ (j k : Nat), j + d = 8 → 80 ≤ k →
    armadalaw12_DigestPads.l0 (k + d + 1) n (strOfNums (padTo n 8)) (8 * n / 2 ^ (64 - 8 * j)) ((1 + zeroCount n + j : Nat) : Int) = armadalaw12_DigestPads.l1 k n (strOfNums (padTo n 8)) (8 * n) 1 := by
  have hz := zeroCount_lt n
  have hsz : (strOfNums (padTo n 8)).size = 1 + zeroCount n + 8 := by rw [strOfNums_size, padTo_length]
  induction d with
  | zero =>
    intro j k hj hk
    obtain rfl : j = 8 := by omega
    rw [armadalaw12_DigestPads.l0, if_neg (by rw [hsz]; omega)]
    rw [show 64 - 8 * 8 = 0 from rfl, Int.pow_zero, Int.ediv_one]
  | succ d ih =>
    intro j k hj hk
    have hr := div_range (8 * n) (by omega) (by omega) (64 - 8 * j)
    rw [armadalaw12_DigestPads.l0, if_pos (by rw [hsz]; omega), if_pos (by omega)]
    rw [bt_nums _ (padTo_range n 8) _ (by rw [padTo_length]; omega), padTo_at n j (by omega)]
    rw [w64 (x := 256 * (8 * n / 2 ^ (64 - 8 * j))) (by omega) (by omega), w64 (x := 8 * n / 2 ^ (56 - 8 * j) % 256) (by omega) (by omega), fold_step (8 * n) j (by omega)]
    have hr2 := div_range (8 * n) (by omega) (by omega) (64 - 8 * (j + 1))
    rw [w64 (by omega) (by omega), w64 (by omega) (by omega)]
    have e : ((1 + zeroCount n + j : Nat) : Int) + 1 = ((1 + zeroCount n + (j + 1) : Nat) : Int) := by omega
    rw [e]
    exact ih (j + 1) k (by omega) hk
theorem pads_l1 (n : Int) (h0 : 0 ≤ n) (h1 : n ≤ 1099511627776) (d : Nat) : ∀ (i k : Nat), 1 ≤ i → i + d = 1 + zeroCount n → 1 ≤ k →
    armadalaw12_DigestPads.l1 (k + d) n (strOfNums (padTo n 8)) (8 * n) (i : Int) = some true := by
  have hz := zeroCount_lt n
  have hsz : (strOfNums (padTo n 8)).size = 1 + zeroCount n + 8 := by rw [strOfNums_size, padTo_length]
  have w8 : wrap64 (((strOfNums (padTo n 8)).size : Int) - 8) = ((1 + zeroCount n : Nat) : Int) := by rw [hsz, w64 (by omega) (by omega)]; omega
  induction d with
  | zero =>
    intro i k hi hj hk
    obtain ⟨k, rfl⟩ : ∃ q, k = q + 1 := ⟨k - 1, by omega⟩
    rw [Nat.add_zero, armadalaw12_DigestPads.l1, w8, if_neg (by omega), w64 (by omega) (by omega), if_pos rfl, live_true]
    rfl
  | succ d ih =>
    intro i k hi hj hk
    rw [← Nat.add_assoc, armadalaw12_DigestPads.l1, w8, if_pos (by omega), if_pos (by omega), if_pos (by rw [hsz]; omega)]
    rw [bt_nums _ (padTo_range n 8) _ (by rw [padTo_length]; omega), padTo_zero n i hi (by omega), if_pos rfl, w64 (by omega) (by omega)]
    exact ih (i + 1) k (by omega) (by omega) hk
theorem DigestPads : armadalaw12_DigestPads.Pure := by
  intro n hn
  have hb := bounds_i64 hn
  refine ⟨180, ?_⟩
  unfold armadalaw12_DigestPads.f digest_Pad.f
  by_cases h0 : n < 0
  · rw [if_pos (Or.inl h0)]
    simp only [Option.bind_some, if_pos h0, armadalaw12_DigestPads.j0, if_true]
    rw [if_pos (by rw [ByteArray.toList_eq]), live_true]
    rfl
  · by_cases h1 : 1099511627776 < n
    · rw [if_pos (Or.inr h1)]
      simp only [Option.bind_some, if_neg h0, armadalaw12_DigestPads.j0, show decide (n > 1099511627776) = true from decide_eq_true h1, if_true]
      rw [if_pos (by rw [ByteArray.toList_eq]), live_true]
      rfl
    · rw [if_neg (by omega)]
      have hz := zeroCount_lt n
      have hsz : (strOfNums (padTo n 8)).size = 1 + zeroCount n + 8 := by rw [strOfNums_size, padTo_length]
      have hzz : (zeroCount n : Int) = (119 - n % 64) % 64 := by unfold zeroCount; omega
      simp only [Option.bind_some, if_neg h0, armadalaw12_DigestPads.j0, show decide (n > 1099511627776) = false from decide_eq_false (by omega)]
      rw [if_neg (by decide), if_neg (by rw [hsz]; omega), if_neg (by rw [hsz]; omega), hsz, w64 (by omega) (by omega), tmod_pos (by omega), if_pos (by omega), if_pos (by omega)]
      have hb0 := bt_nums (padTo n 8) (padTo_range n 8) 0 (by rw [padTo_length]; omega)
      rw [padTo_head] at hb0
      rw [show bt (strOfNums (padTo n 8)) 0 = 128 from hb0, armadalaw12_DigestPads.j1, if_neg (by decide), hsz, w64 (by omega) (by omega)]
      have h := pads_l0 n (by omega) (by omega) 8 0 169 (by omega) (by omega)
      have hq : 8 * n / 2 ^ (64 - 8 * 0) = 0 := by
        apply Int.ediv_eq_zero_of_lt (by omega)
        rw [show ((2 : Int) ^ (64 - 8 * 0)) = 18446744073709551616 from rfl]
        omega
      rw [hq] at h
      have e : ((1 + zeroCount n + 8 : Nat) : Int) - 8 = ((1 + zeroCount n + 0 : Nat) : Int) := by omega
      rw [e, h]
      have h2 := pads_l1 n (by omega) (by omega) (zeroCount n) 1 (169 - zeroCount n) (by omega) (by omega) (by omega)
      rw [show 169 - zeroCount n + zeroCount n = 169 by omega] at h2
      exact h2
end Go.Proofs.Ytkejacgedipoeaa.Pure
