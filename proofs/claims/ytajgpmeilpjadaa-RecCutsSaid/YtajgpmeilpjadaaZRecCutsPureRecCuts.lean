/- The sectors of any payload, how many they are, and the payload of any sectors: the program's are the document's. -/
import Derived.Test.YtajgpmeilpjadaaZRecCutsM4
import Derived.Test.YtajgpmeilpjadaaZRecCutsRJoin
import Derived.Test.YtajgpmeilpjadaaZRecCutsRLive
set_option linter.unusedVariables false
set_option linter.unusedSimpArgs false
namespace Go.Proofs.Ytajgpmeilpjadaa.Pure
open Go.RowKit Go.Proofs.Ytajgpmeilpjadaa.P Go.Proofs.Ytajgpmeilpjadaa.Pl Go.Proofs.YtajgpmeilpjadaaW.PrintWords Go.Proofs.YtajgpmeilpjadaaW.PrintLast
theorem cuts_l0 (s : ByteArray) (l : List ByteArray) (n : Int) (hl : l.length ≤ 300) (hs : s.size ≤ 70000) (d : Nat) : ∀ (k i : Nat), l.length - i = d → i ≤ l.length → d + 2000 < k → armadalaw03_RecCuts.l0 k s l n (i : Int) = some true := by
  induction d with
  | zero =>
    intro k i hd hi hk
    obtain ⟨k, rfl⟩ : ∃ m, k = m + 1 := ⟨k - 1, by omega⟩
    have hz : (cutP s).length ≤ 140 := by
      by_cases h : s.size ≤ 4096
      · rw [cutP_length s h]; unfold cntN; omega
      · unfold cutP; rw [if_neg h]; simp
    rw [armadalaw03_RecCuts.l0, if_neg (by omega), Join_spec l n k (by omega), refJoin_spec l n k (by omega), Cut_spec s k (by omega), refCut_spec s k (by omega), Option.bind_some, Option.bind_some, Option.bind_some, Option.bind_some,
      Same_spec _ _ (by omega) k (by omega), Option.bind_some, if_pos (decide_eq_true rfl), if_pos rfl, if_pos (by simp), Count_spec, refCount_spec, Option.bind_some, Option.bind_some, if_pos rfl]
    exact live_bind k (by omega)
  | succ d ih =>
    intro k i hd hi hk
    obtain ⟨k, rfl⟩ : ∃ m, k = m + 1 := ⟨k - 1, by omega⟩
    rw [armadalaw03_RecCuts.l0, if_pos (by omega), if_pos (by omega)]
    by_cases h : ((rdOf ByteArray.empty l (i : Int)).size : Int) > 100
    · rw [if_pos h]; exact live_bind k (by omega)
    · rw [if_neg h, w64 (by omega) (by omega)]
      exact ih k (i + 1) (by omega) (by omega) (by omega)
theorem RecCuts (s : ByteArray) (l : List ByteArray) (n : Int) : ∃ k, armadalaw03_RecCuts.f k s l n = some true := by
  refine ⟨3000, ?_⟩
  unfold armadalaw03_RecCuts.f
  have hj : ∀ b : Bool, (b = false → l.length ≤ 300 ∧ s.size ≤ 70000) → armadalaw03_RecCuts.j0 3000 s l n b = some true := by
    intro b hb
    rw [armadalaw03_RecCuts.j0]
    cases b with
    | true => rw [if_pos rfl]; exact live_bind _ (by omega)
    | false =>
      rw [if_neg (by decide)]
      exact cuts_l0 s l n (hb rfl).1 (hb rfl).2 l.length _ 0 (by omega) (by omega) (by have := (hb rfl).1; omega)
  by_cases h : (s.size : Int) > 70000
  · rw [if_pos h]; exact hj true (by simp)
  · rw [if_neg h]; exact hj _ (fun h2 => by have := of_decide_eq_false h2; omega)
end Go.Proofs.Ytajgpmeilpjadaa.Pure
