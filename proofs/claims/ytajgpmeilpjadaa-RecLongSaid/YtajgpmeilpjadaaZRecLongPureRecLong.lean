/- Sectors are as few as it takes: one fewer does not hold the payload, each but the last one is full, and each holds its part. -/
import Derived.Test.YtajgpmeilpjadaaZRecLongM3
import Derived.Test.YtajgpmeilpjadaaZRecLongRBack
import Derived.Test.YtajgpmeilpjadaaZRecLongRLive
set_option linter.unusedVariables false
set_option linter.unusedSimpArgs false
namespace Go.Proofs.Ytajgpmeilpjadaa.Pure
open Go.RowKit Go.Proofs.Ytajgpmeilpjadaa.P Go.Proofs.Ytajgpmeilpjadaa.Pl Go.Proofs.YtajgpmeilpjadaaW.PrintWords Go.Proofs.YtajgpmeilpjadaaW.PrintLast
theorem chunk_part (s : ByteArray) (i : Nat) : (chunk s i).extract 1 (1 + min 31 (s.size - 31 * i)) = s.extract (31 * i) (31 * i + 31) := by
  rw [chunk_eq, ← ByteArray.append_assoc, ByteArray.extract_append, ByteArray.extract_append_eq_right (by rfl) (by rw [D1_size, part_size])]
  have : ((zerosB (31 - min 31 (s.size - 31 * i))).extract (1 - (D1 ++ s.extract (31 * i) (31 * i + 31)).size) (1 + min 31 (s.size - 31 * i) - (D1 ++ s.extract (31 * i) (31 * i + 31)).size)).size = 0 := by
    rw [ByteArray.size_extract, ByteArray.size_append, D1_size, part_size]; omega
  rw [ByteArray.size_eq_zero_iff.1 this, ByteArray.append_empty]
theorem cutN_at (s : ByteArray) (n i : Nat) (h : i < n) : rdOf ByteArray.empty (cutN s n) (i : Int) = chunk s i := by
  rw [rdOf_get _ i (by rw [cutN_length]; exact h)]
  simp [cutN]
theorem long_l0 (s : ByteArray) (hs : s.size ≤ 4096) (d : Nat) : ∀ (k i : Nat), cntN s.size - i = d → i ≤ cntN s.size → d + 1000 < k → armadalaw03_RecLong.l0 k s (cutN s (cntN s.size)) (cntN s.size : Int) (i : Int) = some true := by
  induction d with
  | zero =>
    intro k i hd hi hk
    obtain ⟨k, rfl⟩ : ∃ m, k = m + 1 := ⟨k - 1, by omega⟩
    rw [armadalaw03_RecLong.l0, if_neg (by omega)]
    exact live_bind k (by omega)
  | succ d ih =>
    intro k i hd hi hk
    obtain ⟨k, rfl⟩ : ∃ m, k = m + 1 := ⟨k - 1, by omega⟩
    have hlt : 31 * i < s.size := by unfold cntN at *; omega
    have e1 : wrap64 (31 * (i : Int)) = ((31 * i : Nat) : Int) := by rw [w64 (by omega) (by omega)]; omega
    have e2 : wrap64 (((31 * i : Nat) : Int) + 31) = ((31 * i + 31 : Nat) : Int) := by rw [w64 (by omega) (by omega)]; omega
    have e3 : mn ((31 * i + 31 : Nat) : Int) (s.size : Int) = ((min (31 * i + 31) s.size : Nat) : Int) := mn_min _ _
    have e4 : wrap64 (1 + ((s.extract (31 * i) (31 * i + 31)).size : Int)) = ((1 + min 31 (s.size - 31 * i) : Nat) : Int) := by rw [part_size, w64 (by omega) (by omega)]; omega
    rw [armadalaw03_RecLong.l0, e1, e2, e3, cutN_at s _ i (by omega), if_pos (by omega), if_pos (by omega), if_pos (by omega), if_pos (by omega), if_pos (by omega), if_pos (by rw [cutN_length]; omega), if_pos (by rw [chunk_size]; rfl), if_pos (by rw [chunk_size]; decide), chunk_first, if_pos rfl,
      Int.toNat_natCast, Int.toNat_natCast, ext_clamp, e4, if_pos (by omega), if_pos (by rw [chunk_size]; omega), Int.toNat_natCast, chunk_part, if_pos rfl, w64 (by omega) (by unfold cntN at *; omega)]
    exact ih k (i + 1) (by omega) (by omega) (by omega)
theorem RecLong : armadalaw03_RecLong.Pure := by
  intro s _
  refine ⟨3000, ?_⟩
  unfold armadalaw03_RecLong.f
  by_cases h : (s.size : Int) > 4096
  · rw [if_pos h]; exact live_bind _ (by omega)
  · have hs : s.size ≤ 4096 := by omega
    have e1 : cutP s = cutN s (cntN s.size) := by unfold cutP; rw [if_pos hs]
    have hn : cntN s.size ≤ 200 := by unfold cntN; omega
    have hj : armadalaw03_RecLong.j0 3000 s (cutN s (cntN s.size)) (cntN s.size : Int) false = some true := by
      rw [armadalaw03_RecLong.j0, if_neg (by decide)]
      exact long_l0 s hs (cntN s.size) _ 0 (by omega) (by omega) (by omega)
    rw [if_neg h, Cut_spec s _ (by omega), Option.bind_some, Count_spec, Option.bind_some, cntP_nat _ hs, e1, cutN_length, if_pos rfl, w64 (x := 31 * (cntN s.size : Int)) (by omega) (by omega), if_neg (by unfold cntN; omega)]
    by_cases h0 : (cntN s.size : Int) > 0
    · rw [if_pos h0, w64 (x := (cntN s.size : Int) - 1) (by omega) (by omega), w64 (by omega) (by omega), decide_eq_false (by unfold cntN at *; omega)]
      exact hj
    · rw [if_neg h0]
      exact hj
end Go.Proofs.Ytajgpmeilpjadaa.Pure
