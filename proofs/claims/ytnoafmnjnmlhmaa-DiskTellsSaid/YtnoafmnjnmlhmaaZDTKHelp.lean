/- disk: lengths of what its functions tell, and their sameness. -/
import Derived.Test.YtnoafmnjnmlhmaaZDTKPlain2
import Derived.Test.YtnoafmnjnmlhmaaZDTKLive
import Derived.Test.YtnoafmnjnmlhmaaZDTKNewC
import Derived.Test.YtnoafmnjnmlhmaaZDTKGetC
set_option linter.unusedVariables false
set_option linter.unusedSimpArgs false
namespace Go.Proofs.Ytnoafmnjnmlhmaa.P
open Go.RowKit Go.Proofs.YtnoafmnjnmlhmaaW.PrintWords Go.Proofs.YtnoafmnjnmlhmaaW.PrintLast Go.Proofs.YtnoafmnjnmlhmaaW.PrintMore
theorem put_len (s : List ByteArray) (c : List S27) (a : Int) (x : ByteArray) : (putZ s c a x).1 = s ∧ (putZ s c a x).2.1.length ≤ c.length + 1 := by
  unfold putZ
  split
  · split
    · exact ⟨rfl, by simp⟩
    · exact ⟨rfl, by simp⟩
  · exact ⟨rfl, by simp⟩
theorem flush_len (s : List ByteArray) (c : List S27) : (flushZ s c).1.length = s.length ∧ (flushZ s c).2.1.length ≤ c.length := by
  unfold flushZ
  split
  · exact ⟨wrt_length _ _ _ _, Nat.zero_le _⟩
  · exact ⟨rfl, Nat.le_refl _⟩
theorem crash_len (s : List ByteArray) (c : List S27) (l : List Bool) : (crashZ s c l).1.length = s.length ∧ (crashZ s c l).2.1.length ≤ c.length := by
  unfold crashZ
  split
  · exact ⟨wrt_length _ _ _ _, Nat.zero_le _⟩
  · exact ⟨rfl, Nat.le_refl _⟩
theorem new_f (n : Int) : disk_New.f n = some (newZ n) := by unfold disk_New.f newZ; split <;> rfl
theorem new_len (n : Int) : (newZ n).1.length ≤ 512 ∧ (newZ n).2.1.length = 0 := by
  unfold newZ
  split
  · exact ⟨by simp, rfl⟩
  · exact ⟨by simp; omega, rfl⟩
theorem get_f (s : List ByteArray) (c : List S27) (a : Int) : disk_Get.f s c a = some (getZ s c a) := rfl
theorem rsame_self (s : List ByteArray) (c : List S27) (hs : s.length ≤ 1000000) (hc : c.length ≤ 1000000) (k : Nat) (hk : s.length + c.length + 10 ≤ k) : armadaref01_Same.f k s c s c = some true := by
  rw [rsame_f s c s c (by omega) (by omega) k hk, sameB_refl]
end Go.Proofs.Ytnoafmnjnmlhmaa.P
