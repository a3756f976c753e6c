/- disk.filled: bytes, and bytes 0 up to a sector; by the shelf's contract of strings.Repeat. -/
import Derived.Test.YtnoafmnjnmlhmaaZDTShelf
import Derived.Test.YtnoafmnjnmlhmaaZDTM0
namespace Go.Proofs.Ytnoafmnjnmlhmaa.P
open Go.RowKit Go.Proofs.YtnoafmnjnmlhmaaW.PrintWords Go.Proofs.YtnoafmnjnmlhmaaW.PrintLast Go.Proofs.YtnoafmnjnmlhmaaW.PrintMore
set_option linter.unusedVariables false
set_option linter.unusedSimpArgs false
def zerosB (n : Nat) : ByteArray := ⟨(List.replicate n (0 : UInt8)).toArray⟩
def disk_filled.f (a0 : ByteArray) : Option (ByteArray) := if a0.size ≤ 32 then some (a0 ++ zerosB (32 - a0.size)) else none
theorem zerosB_size (n : Nat) : (zerosB n).size = n := by
  show (List.replicate n (0 : UInt8)).toArray.size = n
  rw [List.size_toArray, List.length_replicate]
theorem repeat_zero (n : Nat) : Lib.repeatL [(0 : UInt8)] n = List.replicate n 0 := by
  induction n with
  | zero => rfl
  | succ n ih => rw [List.replicate_succ, ← ih]; rfl
set_option maxHeartbeats 800000 in
theorem disk_filled.calls (a0 : ByteArray) (r : ByteArray) (w : World) (h : disk_filled.f a0 = some r) :
    Calls Try.prog 29 #[.string a0] w fun e w' => e = .returned (.string r) ∧ Below w.heap.size w w' := by
  unfold disk_filled.f at h
  by_cases c : a0.size ≤ 32
  · rw [if_pos c] at h
    obtain rfl := Option.some.inj h
    have hh : (32 : Int) - (a0.size : Int) = ((32 - a0.size : Nat) : Int) := by omega
    have hc1 : 32 - a0.size ≤ 9223372036854775807 := by omega
    have hc2 : (⟨#[0]⟩ : ByteArray).size * (32 - a0.size) ≤ 140737488355328 := by
      show 1 * (32 - a0.size) ≤ _
      omega
    have HR : ∀ w1, Calls Try.prog 38 #[.string ⟨#[0]⟩, .int .i64 ((32 : Int) - (a0.size : Int))] w1 fun e w' => e = .returned (.string (zerosB (32 - a0.size))) ∧ Below w1.heap.size w1 w' := by
      intro w1
      rw [hh]
      refine (Try.strings_Repeat ⟨#[0]⟩ (32 - a0.size) w1 hc1 hc2).mono ?_
      rintro e w' ⟨rfl, hb⟩
      refine ⟨?_, hb⟩
      show Ending.returned (.string ⟨(Lib.repeatL [(0 : UInt8)] (32 - a0.size)).toArray⟩) = _
      rw [repeat_zero]
      rfl
    have HB := Aside0.mk HR
    have hz : (zerosB (32 - a0.size)).size = 32 - a0.size := zerosB_size _
    have hle : a0.size + (zerosB (32 - a0.size)).size ≤ 9223372036854775807 := by omega
    clear hh hc1 hc2 HR hz
    generalize zerosB (32 - a0.size) = z at *
    go_enter Try.func29, Try.ntmps29
    go_wp2_with (go_at_call 38; refine (HB.out _).mono ?_; rintro e w' ⟨rfl, hb⟩)
    go_ret
    exact ⟨rfl, hb⟩
  · rw [if_neg c] at h
    cases h
end Go.Proofs.Ytnoafmnjnmlhmaa.P
