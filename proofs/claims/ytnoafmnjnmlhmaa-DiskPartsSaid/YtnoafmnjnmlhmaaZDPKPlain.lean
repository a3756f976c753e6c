/- disk: what its functions and the document's ones tell, plainly. -/
import Derived.Test.YtnoafmnjnmlhmaaZDPM1
import Derived.Test.YtnoafmnjnmlhmaaZDPM0
import Derived.Test.YtnoafmnjnmlhmaaZDPKFlush
import Derived.Test.YtnoafmnjnmlhmaaZDPKGet
import Derived.Test.YtnoafmnjnmlhmaaZDPKFilled
set_option linter.unusedVariables false
set_option linter.unusedSimpArgs false
namespace Go.Proofs.Ytnoafmnjnmlhmaa.P
open Go.RowKit Go.Proofs.YtnoafmnjnmlhmaaW.PrintWords Go.Proofs.YtnoafmnjnmlhmaaW.PrintLast Go.Proofs.YtnoafmnjnmlhmaaW.PrintMore
def isB (s : List ByteArray) (a : Int) : Bool := decide (0 ≤ a) && decide (a < (s.length : Int))
def fil (x : ByteArray) : ByteArray := x ++ zerosB (32 - x.size)
def putZ (s : List ByteArray) (c : List S27) (a : Int) (x : ByteArray) : List ByteArray × List S27 × Int :=
  if (mayB s c && isB s a) = true then (if x.size ≤ 32 then (s, c ++ [⟨a, fil x⟩], 0) else (s, c, 2)) else (s, c, 1)
def flushZ (s : List ByteArray) (c : List S27) : List ByteArray × List S27 × Int := if mayB s c = true then (wrt (fun _ => true) 0 c s, ([] : List S27), 0) else (s, c, 1)
theorem flush_f (s : List ByteArray) (c : List S27) : disk_Flush.f s c = some (flushZ s c) := by unfold disk_Flush.f flushZ; split <;> rfl
theorem put_f (s : List ByteArray) (c : List S27) (a : Int) (x : ByteArray) (hs : s.length ≤ 9223372036854775807) (hc : c.length ≤ 1000000) (k : Nat) (hk : s.length + c.length + 10 ≤ k) : disk_Put.f k s c a x = some (putZ s c a x) := by
  obtain ⟨k, rfl⟩ : ∃ k', k = k' + 1 := ⟨k - 1, by omega⟩
  unfold disk_Put.f putZ
  rw [may_f s c hs (by omega) _ (by omega)]
  simp only [Option.bind_some]
  by_cases hm : mayB s c = true
  · rw [if_pos hm, is_f, hm, Bool.true_and]
    simp only [Option.bind_some]
    rw [disk_Put.j0]
    change (if (!isB s a) = true then _ else _) = _
    by_cases hi : isB s a = true
    · rw [hi, if_neg (by decide), if_pos rfl]
      by_cases hx : x.size ≤ 32
      · rw [if_neg (by omega), if_pos (by simp; omega), if_pos hx]
        simp only [Option.bind_some, List.nil_append]
        rw [show disk_filled.f x = some (fil x) from if_pos hx]
        simp only [Option.bind_some]
        rw [if_pos (by omega)]
      · rw [if_pos (by omega), if_neg hx]
    · rw [if_neg hi, if_pos (by simp [hi])]
  · rw [if_neg hm, disk_Put.j0, if_pos rfl, if_neg (by simp [hm])]
end Go.Proofs.Ytnoafmnjnmlhmaa.P
