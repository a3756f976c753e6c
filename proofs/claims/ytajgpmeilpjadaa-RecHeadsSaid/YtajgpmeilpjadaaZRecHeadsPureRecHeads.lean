/- The text of any head, the head of any bytes, and the head of any payload: the program's are the document's. -/
import Derived.Test.YtajgpmeilpjadaaZRecHeadsM5
import Derived.Test.YtajgpmeilpjadaaZRecHeadsRHead
import Derived.Test.YtajgpmeilpjadaaZRecHeadsRLive
set_option linter.unusedVariables false
set_option linter.unusedSimpArgs false
namespace Go.Proofs.Ytajgpmeilpjadaa.Pure
open Go.RowKit Go.Proofs.Ytajgpmeilpjadaa.P Go.Proofs.Ytajgpmeilpjadaa.Pl Go.Proofs.YtajgpmeilpjadaaW.PrintWords Go.Proofs.YtajgpmeilpjadaaW.PrintLast
theorem live_at (k : Nat) (hk : 500 ≤ k) : armadalaw03_live.f k = some true := at_rounds armadalaw03_live.mono hk live_true
theorem live_bind (k : Nat) (hk : 500 ≤ k) : ((armadalaw03_live.f k).bind fun t => some t) = some true := by rw [live_at k hk]; rfl
theorem RecHeads (a b c d e : Int) (s : ByteArray) (he : I64 e) (hs : s.size ≤ 140737488351232) : ∃ k, armadalaw03_RecHeads.f k a b c d e s = some true := by
  refine ⟨s.size + 500, ?_⟩
  have hl := live_bind (s.size + 500) (by omega)
  unfold armadalaw03_RecHeads.f
  by_cases h : (s.size : Int) > 70000
  · rw [if_pos h]; exact hl
  · rw [if_neg h, Text_spec a b c d e he _ (by omega), refText_spec a b c d e he _ (by omega), Read_spec s _ (by omega), refRead_spec s _ (by omega), Make_spec a b c s hs _ (by omega), refMake_spec a b c s hs _ (by omega) (by omega)]
    generalize (if mayP a b c d e then (headT a b c d e, true) else (⟨#[]⟩, false)) = x
    generalize readP s = y
    generalize makeP a b c s = z
    rw [Option.bind_some, Option.bind_some, Option.bind_some, Option.bind_some, Option.bind_some, Option.bind_some, if_pos rfl, if_pos (by simp), if_pos (by simp), if_pos (by simp), if_pos (by simp), if_pos (by simp)]
    exact hl
end Go.Proofs.Ytajgpmeilpjadaa.Pure
