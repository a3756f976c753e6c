/- A payload that is cut is joined again, by its own size alone; a head is read as it was; no sector of a payload is a head, and no head is one of a payload. -/
import Derived.Test.YtajgpmeilpjadaaZRecBackM3
import Derived.Test.YtajgpmeilpjadaaZRecBackRBack
import Derived.Test.YtajgpmeilpjadaaZRecBackRLive
set_option linter.unusedVariables false
set_option linter.unusedSimpArgs false
namespace Go.Proofs.Ytajgpmeilpjadaa.Pure
open Go.RowKit Go.Proofs.Ytajgpmeilpjadaa.P Go.Proofs.Ytajgpmeilpjadaa.Pl Go.Proofs.YtajgpmeilpjadaaW.PrintWords Go.Proofs.YtajgpmeilpjadaaW.PrintLast
theorem cutN_get (s : ByteArray) (n i : Nat) (h : i < n) : rdOf ByteArray.empty (cutN s n) (i : Int) = chunk s i := by
  rw [rdOf_get _ i (by rw [cutN_length]; exact h)]
  simp [cutN]
theorem back_l0 (s : ByteArray) (n : Nat) (hn : n ≤ 200) (a b c d e : Int) (he : I64 e) (dd : Nat) : ∀ (k i : Nat), n - i = dd → i ≤ n → dd + 1000 < k → armadalaw03_RecBack.l0 k (cutN s n) (i : Int) a b c d e = some true := by
  induction dd with
  | zero =>
    intro k i hd hi hk
    obtain ⟨k, rfl⟩ : ∃ m, k = m + 1 := ⟨k - 1, by omega⟩
    rw [armadalaw03_RecBack.l0, if_neg (by rw [cutN_length]; omega), Text_spec a b c d e he k (by omega), Option.bind_some]
    by_cases h : mayP a b c d e
    · rw [if_pos h, if_pos rfl, Read_spec _ k (by omega), Option.bind_some]
      show (rec_Join.f k [headT a b c d e] 5).bind _ = _
      rw [Join_spec _ _ k (by omega), Option.bind_some, readP_headT a b c d e h, if_pos rfl, if_pos (by simp)]
      unfold joinP
      rw [if_neg (joins_head a b c d e 5), if_neg (by simp)]
      exact live_bind k (by omega)
    · rw [if_neg h, if_neg (by simp), if_pos ((toList_nil _).2 rfl)]
      exact live_bind k (by omega)
  | succ dd ih =>
    intro k i hd hi hk
    obtain ⟨k, rfl⟩ : ∃ m, k = m + 1 := ⟨k - 1, by omega⟩
    rw [armadalaw03_RecBack.l0, if_pos (by rw [cutN_length]; omega), if_pos (by omega), cutN_get s n i (by omega), Read_spec _ k (by omega), Option.bind_some, readP_chunk, if_neg (by simp), if_pos (by rw [chunk_size]; rfl), w64 (by omega) (by omega)]
    exact ih k (i + 1) (by omega) (by omega) (by omega)
theorem RecBack (a b c d e : Int) (he : I64 e) (s : ByteArray) (z : Int) : ∃ k, armadalaw03_RecBack.f k a b c d e s z = some true := by
  refine ⟨3000, ?_⟩
  unfold armadalaw03_RecBack.f
  by_cases h : (s.size : Int) > 70000
  · rw [if_pos h]; exact live_bind _ (by omega)
  · rw [if_neg h, Cut_spec s _ (by omega), Option.bind_some]
    by_cases h2 : (s.size : Int) > 4096
    · have : cutP s = [] := by unfold cutP; rw [if_neg (by omega)]
      rw [if_pos h2, this, if_pos (by rfl)]; exact live_bind _ (by omega)
    · have hs : s.size ≤ 4096 := by omega
      have e1 : cutP s = cutN s (cntN s.size) := by unfold cutP; rw [if_pos hs]
      have hn : cntN s.size ≤ 200 := by unfold cntN; omega
      have hj : armadalaw03_RecBack.j0 3000 (cutP s) false a b c d e = some true := by
        rw [armadalaw03_RecBack.j0, if_neg (by decide), e1]
        exact back_l0 s (cntN s.size) hn a b c d e he (cntN s.size) _ 0 (by omega) (by omega) (by omega)
      rw [if_neg h2, Count_spec, Option.bind_some, cntP_nat _ hs, if_pos (by rw [cutP_length s hs]), Join_spec _ _ _ (by omega), Option.bind_some, Join_spec _ _ _ (by omega), Option.bind_some, joinP_cut s hs, if_pos rfl, if_pos rfl]
      by_cases hz : joins (cutP s) z
      · have hz1 := cntP_some hz.1
        have hlen := cutP_length s hs
        have hsz : ((joined (cutP s)).extract 0 z.toNat).size = z.toNat := by
          rw [ByteArray.size_extract, joined_size _ hz.2.1]
          unfold cntN at *
          omega
        unfold joinP
        rw [if_pos hz, if_pos rfl, if_neg (by omega), if_pos (by show (((joined (cutP s)).extract 0 z.toNat).size : Int) = z; rw [hsz]; omega), Count_spec, Option.bind_some, hz.1]
        rw [show ((((cutP s).length : Nat) : Int) != ((cutP s).length : Int)) = false by simp]
        exact hj
      · unfold joinP
        rw [if_neg hz, if_neg (by simp)]
        exact hj
end Go.Proofs.Ytajgpmeilpjadaa.Pure
