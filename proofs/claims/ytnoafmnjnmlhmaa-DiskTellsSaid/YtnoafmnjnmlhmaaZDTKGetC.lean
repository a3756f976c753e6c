/- disk: Get's contract in the print's form. -/
import Derived.Test.YtnoafmnjnmlhmaaZDTKGet
set_option linter.unusedVariables false
set_option linter.unusedSimpArgs false
namespace Go.Proofs.Ytnoafmnjnmlhmaa.P
open Go.RowKit Go.Proofs.YtnoafmnjnmlhmaaW.PrintWords Go.Proofs.YtnoafmnjnmlhmaaW.PrintLast Go.Proofs.YtnoafmnjnmlhmaaW.PrintMore
def disk_Get.f (s : List ByteArray) (c : List S27) (a : Int) : Option (ByteArray × Int) := some (getZ s c a)
theorem disk_Get.calls (A0_0 : Option Addr) (c0_0 : Nat) (l0_0 : List ByteArray) (A0_1 : Option Addr) (c0_1 : Nat) (l0_1 : List (S27)) (a1 : Int) (r1 : ByteArray) (r2 : Int) (w : World) (hr0_0 : Kd.C Kd.string w A0_0 l0_0.length l0_0) (hc0_0 : l0_0.length ≤ c0_0) (hr0_1 : Kd.C k27 w A0_1 l0_1.length l0_1) (hc0_1 : l0_1.length ≤ c0_1) (h : disk_Get.f l0_0 l0_1 a1 = some (r1, r2)) :
    Calls Try.prog 13 #[.agg #[.slice A0_0 l0_0.length c0_0, .slice A0_1 l0_1.length c0_1], .int .i64 a1] w fun e w' => e = .returned (.tuple #[.string r1, .int .i64 r2]) ∧ Below w.heap.size w w' := by
  have e := Option.some.inj h
  have h1 := get_any A0_0 c0_0 l0_0 A0_1 c0_1 l0_1 a1 w hr0_0 hc0_0 hr0_1 hc0_1
  rw [e] at h1
  exact h1
end Go.Proofs.Ytnoafmnjnmlhmaa.P
