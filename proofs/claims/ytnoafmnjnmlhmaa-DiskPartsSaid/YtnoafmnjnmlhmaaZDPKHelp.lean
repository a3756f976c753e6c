/- disk: lengths of what its functions tell, and their sameness. -/
import Derived.Test.YtnoafmnjnmlhmaaZDPKPlain2
import Derived.Test.YtnoafmnjnmlhmaaZDPKLive
import Derived.Test.YtnoafmnjnmlhmaaZDPKNewC
import Derived.Test.YtnoafmnjnmlhmaaZDPKGetC
set_option linter.unusedVariables false
set_option linter.unusedSimpArgs false
namespace Go.Proofs.Ytnoafmnjnmlhmaa.P
open Go.RowKit Go.Proofs.YtnoafmnjnmlhmaaW.PrintWords Go.Proofs.YtnoafmnjnmlhmaaW.PrintLast Go.Proofs.YtnoafmnjnmlhmaaW.PrintMore
theorem put_len (s : List ByteArray) (c : List S27) (a : Int) (x : ByteArray) : (putZ s c a x).1 = s ∧ (putZ s c a x).2.1.length ≤ c.length + 1 := by
  unfold putZ
  split
  · split
    · exact ⟨rfl, by simp⟩
    · exact ⟨rfl, by simp⟩
  · exact ⟨rfl, by simp⟩
theorem flush_len (s : List ByteArray) (c : List S27) : (flushZ s c).1.length = s.length ∧ (flushZ s c).2.1.length ≤ c.length := by
  unfold flushZ
  split
  · exact ⟨wrt_length _ _ _ _, Nat.zero_le _⟩
  · exact ⟨rfl, Nat.le_refl _⟩
theorem rsame_self (s : List ByteArray) (c : List S27) (hs : s.length ≤ 1000000) (hc : c.length ≤ 1000000) (k : Nat) (hk : s.length + c.length + 10 ≤ k) : armadaref01_Same.f k s c s c = some true := by
  rw [rsame_f s c s c (by omega) (by omega) k hk, sameB_refl]
end Go.Proofs.Ytnoafmnjnmlhmaa.P
