/- Printed functions, merged. -/
import Derived.Test.YthoiepkejhhcoaaDoorZVTM0
import Derived.Test.YthoiepkejhhcoaaDoorZVTAl
namespace Go.Proofs.YthoiepkejhhcoaaDoor.P
open Go.RowKit Go.Proofs.YthoiepkejhhcoaaDoorW.PrintWords Go.Proofs.YthoiepkejhhcoaaDoorW.PrintLast Go.Proofs.YthoiepkejhhcoaaDoorW.PrintMore
attribute [local go_sem] max2_int min2_int max_two min_two max_three min_three max_four min_four   -- for this text's walks alone
set_option linter.unusedVariables false
set_option linter.unusedSimpArgs false
def armadaref07_Text.f (k : Nat) (a0_0 : Int) (a0_1 : Int) (a0_2 : Int) (a0_3 : ByteArray) (a0_4 : ByteArray) : Option (ByteArray) := (armadaref07_Check.f k a0_0 a0_1 a0_2 a0_3 a0_4).bind fun t274 => (if t274 = true then ((armadaref07_Number.f k a0_0).bind fun t275 => (if 1 + t275.size ≤ 9223372036854775807 then (if ((⟨#[118]⟩ : ByteArray) ++ t275).size + 1 ≤ 9223372036854775807 then ((armadaref07_Number.f k a0_1).bind fun t276 => (if (((⟨#[118]⟩ : ByteArray) ++ t275) ++ (⟨#[46]⟩ : ByteArray)).size + t276.size ≤ 9223372036854775807 then (if ((((⟨#[118]⟩ : ByteArray) ++ t275) ++ (⟨#[46]⟩ : ByteArray)) ++ t276).size + 1 ≤ 9223372036854775807 then ((armadaref07_Number.f k a0_2).bind fun t277 => (if (((((⟨#[118]⟩ : ByteArray) ++ t275) ++ (⟨#[46]⟩ : ByteArray)) ++ t276) ++ (⟨#[46]⟩ : ByteArray)).size + t277.size ≤ 9223372036854775807 then (if a0_3.toList = ([] : List UInt8) then (if a0_4.toList = ([] : List UInt8) then (some ((((((⟨#[118]⟩ : ByteArray) ++ t275) ++ (⟨#[46]⟩ : ByteArray)) ++ t276) ++ (⟨#[46]⟩ : ByteArray)) ++ t277)) else (if ((((((⟨#[118]⟩ : ByteArray) ++ t275) ++ (⟨#[46]⟩ : ByteArray)) ++ t276) ++ (⟨#[46]⟩ : ByteArray)) ++ t277).size + 1 ≤ 9223372036854775807 then (if (((((((⟨#[118]⟩ : ByteArray) ++ t275) ++ (⟨#[46]⟩ : ByteArray)) ++ t276) ++ (⟨#[46]⟩ : ByteArray)) ++ t277) ++ (⟨#[43]⟩ : ByteArray)).size + a0_4.size ≤ 9223372036854775807 then (some ((((((((⟨#[118]⟩ : ByteArray) ++ t275) ++ (⟨#[46]⟩ : ByteArray)) ++ t276) ++ (⟨#[46]⟩ : ByteArray)) ++ t277) ++ (⟨#[43]⟩ : ByteArray)) ++ a0_4)) else (none)) else (none))) else (if ((((((⟨#[118]⟩ : ByteArray) ++ t275) ++ (⟨#[46]⟩ : ByteArray)) ++ t276) ++ (⟨#[46]⟩ : ByteArray)) ++ t277).size + 1 ≤ 9223372036854775807 then (if (((((((⟨#[118]⟩ : ByteArray) ++ t275) ++ (⟨#[46]⟩ : ByteArray)) ++ t276) ++ (⟨#[46]⟩ : ByteArray)) ++ t277) ++ (⟨#[45]⟩ : ByteArray)).size + a0_3.size ≤ 9223372036854775807 then (if a0_4.toList = ([] : List UInt8) then (some ((((((((⟨#[118]⟩ : ByteArray) ++ t275) ++ (⟨#[46]⟩ : ByteArray)) ++ t276) ++ (⟨#[46]⟩ : ByteArray)) ++ t277) ++ (⟨#[45]⟩ : ByteArray)) ++ a0_3)) else (if ((((((((⟨#[118]⟩ : ByteArray) ++ t275) ++ (⟨#[46]⟩ : ByteArray)) ++ t276) ++ (⟨#[46]⟩ : ByteArray)) ++ t277) ++ (⟨#[45]⟩ : ByteArray)) ++ a0_3).size + 1 ≤ 9223372036854775807 then (if (((((((((⟨#[118]⟩ : ByteArray) ++ t275) ++ (⟨#[46]⟩ : ByteArray)) ++ t276) ++ (⟨#[46]⟩ : ByteArray)) ++ t277) ++ (⟨#[45]⟩ : ByteArray)) ++ a0_3) ++ (⟨#[43]⟩ : ByteArray)).size + a0_4.size ≤ 9223372036854775807 then (some ((((((((((⟨#[118]⟩ : ByteArray) ++ t275) ++ (⟨#[46]⟩ : ByteArray)) ++ t276) ++ (⟨#[46]⟩ : ByteArray)) ++ t277) ++ (⟨#[45]⟩ : ByteArray)) ++ a0_3) ++ (⟨#[43]⟩ : ByteArray)) ++ a0_4)) else (none)) else (none))) else (none)) else (none))) else (none))) else (none)) else (none))) else (none)) else (none))) else (some (⟨#[]⟩ : ByteArray)))
theorem armadaref07_Text.mono : ∀ a0 a1 a2 a3 a4 k, LeO (armadaref07_Text.f k a0 a1 a2 a3 a4) (armadaref07_Text.f (k + 1) a0 a1 a2 a3 a4) := by
 intro a0 a1 a2 a3 a4 k
 unfold armadaref07_Text.f
 repeat' first
   | (with_reducible exact armadaref07_Check.mono _ _ _ _ _ _)
   | (with_reducible exact armadaref07_Number.mono _ _)
   | (with_reducible exact LeO.refl _)
   | (with_reducible exact LeO.none _)
   | (with_reducible refine LeO.ite ?_ ?_)
   | (with_reducible refine LeO.bind ?_ (fun _ => ?_))
   | exact armadaref07_Check.mono _ _ _ _ _ _
   | exact armadaref07_Number.mono _ _
   | exact LeO.none _
   | refine LeO.ite ?_ ?_
   | refine LeO.bind ?_ (fun _ => ?_)
def armadaref07_Text.T3 : Bool × List (List Nat × List Nat) := (true, [([], []), ([0], [0]), ([1], [1]), ([2], [2]), ([3], [3]), ([], []), ([5], [5]), ([6, 2], [6]), ([4, 7], [4, 7]), ([8], [8]), ([], []), ([10], [10]), ([11, 7], [11]), ([9, 12], [9, 12]), ([13, 12, 0, 1, 2, 3, 4, 5, 6, 7, 8, 9, 10, 11, 12, 13], [13])])
def armadaref07_Text.B3 : List Nat := [0, 1, 3, 7, 15, 0, 32, 103, 255, 511, 0, 1024, 3303, 8191, 16383]
theorem armadaref07_Text.tab3 : rtab .any (opsOf Tryd.f16 3) = armadaref07_Text.T3 := by kernel_rfl
theorem armadaref07_Text.bits3 : waitsOk armadaref07_Text.T3.2 armadaref07_Text.B3 = true := by kernel_rfl
set_option maxHeartbeats 8000000 in
set_option maxRecDepth 100000 in
theorem armadaref07_Text.calls (k : Nat) (a0_0 : Int) (a0_1 : Int) (a0_2 : Int) (a0_3 : ByteArray) (a0_4 : ByteArray) (r : ByteArray) (w : World) (h : armadaref07_Text.f k a0_0 a0_1 a0_2 a0_3 a0_4 = some r) :
  Calls Tryd.prog 16 #[.agg #[.int .i64 a0_0, .int .i64 a0_1, .int .i64 a0_2, .string a0_3, .string a0_4]] w fun e w' => e = .returned (.string r) ∧ Below w.heap.size w w' := by
 have hu23 := Tryd.underlying23
 have HB := Aside0.mk (Below.refl w.heap.size w)
 have H : ((armadaref07_Check.f k a0_0 a0_1 a0_2 a0_3 a0_4).bind fun t274 => (if t274 = true then ((armadaref07_Number.f k a0_0).bind fun t275 => (if 1 + t275.size ≤ 9223372036854775807 then (if ((⟨#[118]⟩ : ByteArray) ++ t275).size + 1 ≤ 9223372036854775807 then ((armadaref07_Number.f k a0_1).bind fun t276 => (if (((⟨#[118]⟩ : ByteArray) ++ t275) ++ (⟨#[46]⟩ : ByteArray)).size + t276.size ≤ 9223372036854775807 then (if ((((⟨#[118]⟩ : ByteArray) ++ t275) ++ (⟨#[46]⟩ : ByteArray)) ++ t276).size + 1 ≤ 9223372036854775807 then ((armadaref07_Number.f k a0_2).bind fun t277 => (if (((((⟨#[118]⟩ : ByteArray) ++ t275) ++ (⟨#[46]⟩ : ByteArray)) ++ t276) ++ (⟨#[46]⟩ : ByteArray)).size + t277.size ≤ 9223372036854775807 then (if a0_3.toList = ([] : List UInt8) then (if a0_4.toList = ([] : List UInt8) then (some ((((((⟨#[118]⟩ : ByteArray) ++ t275) ++ (⟨#[46]⟩ : ByteArray)) ++ t276) ++ (⟨#[46]⟩ : ByteArray)) ++ t277)) else (if ((((((⟨#[118]⟩ : ByteArray) ++ t275) ++ (⟨#[46]⟩ : ByteArray)) ++ t276) ++ (⟨#[46]⟩ : ByteArray)) ++ t277).size + 1 ≤ 9223372036854775807 then (if (((((((⟨#[118]⟩ : ByteArray) ++ t275) ++ (⟨#[46]⟩ : ByteArray)) ++ t276) ++ (⟨#[46]⟩ : ByteArray)) ++ t277) ++ (⟨#[43]⟩ : ByteArray)).size + a0_4.size ≤ 9223372036854775807 then (some ((((((((⟨#[118]⟩ : ByteArray) ++ t275) ++ (⟨#[46]⟩ : ByteArray)) ++ t276) ++ (⟨#[46]⟩ : ByteArray)) ++ t277) ++ (⟨#[43]⟩ : ByteArray)) ++ a0_4)) else (none)) else (none))) else (if ((((((⟨#[118]⟩ : ByteArray) ++ t275) ++ (⟨#[46]⟩ : ByteArray)) ++ t276) ++ (⟨#[46]⟩ : ByteArray)) ++ t277).size + 1 ≤ 9223372036854775807 then (if (((((((⟨#[118]⟩ : ByteArray) ++ t275) ++ (⟨#[46]⟩ : ByteArray)) ++ t276) ++ (⟨#[46]⟩ : ByteArray)) ++ t277) ++ (⟨#[45]⟩ : ByteArray)).size + a0_3.size ≤ 9223372036854775807 then (if a0_4.toList = ([] : List UInt8) then (some ((((((((⟨#[118]⟩ : ByteArray) ++ t275) ++ (⟨#[46]⟩ : ByteArray)) ++ t276) ++ (⟨#[46]⟩ : ByteArray)) ++ t277) ++ (⟨#[45]⟩ : ByteArray)) ++ a0_3)) else (if ((((((((⟨#[118]⟩ : ByteArray) ++ t275) ++ (⟨#[46]⟩ : ByteArray)) ++ t276) ++ (⟨#[46]⟩ : ByteArray)) ++ t277) ++ (⟨#[45]⟩ : ByteArray)) ++ a0_3).size + 1 ≤ 9223372036854775807 then (if (((((((((⟨#[118]⟩ : ByteArray) ++ t275) ++ (⟨#[46]⟩ : ByteArray)) ++ t276) ++ (⟨#[46]⟩ : ByteArray)) ++ t277) ++ (⟨#[45]⟩ : ByteArray)) ++ a0_3) ++ (⟨#[43]⟩ : ByteArray)).size + a0_4.size ≤ 9223372036854775807 then (some ((((((((((⟨#[118]⟩ : ByteArray) ++ t275) ++ (⟨#[46]⟩ : ByteArray)) ++ t276) ++ (⟨#[46]⟩ : ByteArray)) ++ t277) ++ (⟨#[45]⟩ : ByteArray)) ++ a0_3) ++ (⟨#[43]⟩ : ByteArray)) ++ a0_4)) else (none)) else (none))) else (none)) else (none))) else (none))) else (none)) else (none))) else (none)) else (none))) else (some (⟨#[]⟩ : ByteArray)))) = some r := h
 clear h
 replace H := Option.bind_eq_some_iff.mp H
 obtain ⟨t274, A20, H⟩ := H
 replace H : (if t274 = true then ((armadaref07_Number.f k a0_0).bind fun t275 => (if 1 + t275.size ≤ 9223372036854775807 then (if ((⟨#[118]⟩ : ByteArray) ++ t275).size + 1 ≤ 9223372036854775807 then ((armadaref07_Number.f k a0_1).bind fun t276 => (if (((⟨#[118]⟩ : ByteArray) ++ t275) ++ (⟨#[46]⟩ : ByteArray)).size + t276.size ≤ 9223372036854775807 then (if ((((⟨#[118]⟩ : ByteArray) ++ t275) ++ (⟨#[46]⟩ : ByteArray)) ++ t276).size + 1 ≤ 9223372036854775807 then ((armadaref07_Number.f k a0_2).bind fun t277 => (if (((((⟨#[118]⟩ : ByteArray) ++ t275) ++ (⟨#[46]⟩ : ByteArray)) ++ t276) ++ (⟨#[46]⟩ : ByteArray)).size + t277.size ≤ 9223372036854775807 then (if a0_3.toList = ([] : List UInt8) then (if a0_4.toList = ([] : List UInt8) then (some ((((((⟨#[118]⟩ : ByteArray) ++ t275) ++ (⟨#[46]⟩ : ByteArray)) ++ t276) ++ (⟨#[46]⟩ : ByteArray)) ++ t277)) else (if ((((((⟨#[118]⟩ : ByteArray) ++ t275) ++ (⟨#[46]⟩ : ByteArray)) ++ t276) ++ (⟨#[46]⟩ : ByteArray)) ++ t277).size + 1 ≤ 9223372036854775807 then (if (((((((⟨#[118]⟩ : ByteArray) ++ t275) ++ (⟨#[46]⟩ : ByteArray)) ++ t276) ++ (⟨#[46]⟩ : ByteArray)) ++ t277) ++ (⟨#[43]⟩ : ByteArray)).size + a0_4.size ≤ 9223372036854775807 then (some ((((((((⟨#[118]⟩ : ByteArray) ++ t275) ++ (⟨#[46]⟩ : ByteArray)) ++ t276) ++ (⟨#[46]⟩ : ByteArray)) ++ t277) ++ (⟨#[43]⟩ : ByteArray)) ++ a0_4)) else (none)) else (none))) else (if ((((((⟨#[118]⟩ : ByteArray) ++ t275) ++ (⟨#[46]⟩ : ByteArray)) ++ t276) ++ (⟨#[46]⟩ : ByteArray)) ++ t277).size + 1 ≤ 9223372036854775807 then (if (((((((⟨#[118]⟩ : ByteArray) ++ t275) ++ (⟨#[46]⟩ : ByteArray)) ++ t276) ++ (⟨#[46]⟩ : ByteArray)) ++ t277) ++ (⟨#[45]⟩ : ByteArray)).size + a0_3.size ≤ 9223372036854775807 then (if a0_4.toList = ([] : List UInt8) then (some ((((((((⟨#[118]⟩ : ByteArray) ++ t275) ++ (⟨#[46]⟩ : ByteArray)) ++ t276) ++ (⟨#[46]⟩ : ByteArray)) ++ t277) ++ (⟨#[45]⟩ : ByteArray)) ++ a0_3)) else (if ((((((((⟨#[118]⟩ : ByteArray) ++ t275) ++ (⟨#[46]⟩ : ByteArray)) ++ t276) ++ (⟨#[46]⟩ : ByteArray)) ++ t277) ++ (⟨#[45]⟩ : ByteArray)) ++ a0_3).size + 1 ≤ 9223372036854775807 then (if (((((((((⟨#[118]⟩ : ByteArray) ++ t275) ++ (⟨#[46]⟩ : ByteArray)) ++ t276) ++ (⟨#[46]⟩ : ByteArray)) ++ t277) ++ (⟨#[45]⟩ : ByteArray)) ++ a0_3) ++ (⟨#[43]⟩ : ByteArray)).size + a0_4.size ≤ 9223372036854775807 then (some ((((((((((⟨#[118]⟩ : ByteArray) ++ t275) ++ (⟨#[46]⟩ : ByteArray)) ++ t276) ++ (⟨#[46]⟩ : ByteArray)) ++ t277) ++ (⟨#[45]⟩ : ByteArray)) ++ a0_3) ++ (⟨#[43]⟩ : ByteArray)) ++ a0_4)) else (none)) else (none))) else (none)) else (none))) else (none))) else (none)) else (none))) else (none)) else (none))) else (some (⟨#[]⟩ : ByteArray))) = some r := H
 have A2 := Aside0.mk A20
 clear A20
 by_cases c3 : t274 = true
 ·subst c3
  have H1 : ((armadaref07_Number.f k a0_0).bind fun t275 => (if 1 + t275.size ≤ 9223372036854775807 then (if ((⟨#[118]⟩ : ByteArray) ++ t275).size + 1 ≤ 9223372036854775807 then ((armadaref07_Number.f k a0_1).bind fun t276 => (if (((⟨#[118]⟩ : ByteArray) ++ t275) ++ (⟨#[46]⟩ : ByteArray)).size + t276.size ≤ 9223372036854775807 then (if ((((⟨#[118]⟩ : ByteArray) ++ t275) ++ (⟨#[46]⟩ : ByteArray)) ++ t276).size + 1 ≤ 9223372036854775807 then ((armadaref07_Number.f k a0_2).bind fun t277 => (if (((((⟨#[118]⟩ : ByteArray) ++ t275) ++ (⟨#[46]⟩ : ByteArray)) ++ t276) ++ (⟨#[46]⟩ : ByteArray)).size + t277.size ≤ 9223372036854775807 then (if a0_3.toList = ([] : List UInt8) then (if a0_4.toList = ([] : List UInt8) then (some ((((((⟨#[118]⟩ : ByteArray) ++ t275) ++ (⟨#[46]⟩ : ByteArray)) ++ t276) ++ (⟨#[46]⟩ : ByteArray)) ++ t277)) else (if ((((((⟨#[118]⟩ : ByteArray) ++ t275) ++ (⟨#[46]⟩ : ByteArray)) ++ t276) ++ (⟨#[46]⟩ : ByteArray)) ++ t277).size + 1 ≤ 9223372036854775807 then (if (((((((⟨#[118]⟩ : ByteArray) ++ t275) ++ (⟨#[46]⟩ : ByteArray)) ++ t276) ++ (⟨#[46]⟩ : ByteArray)) ++ t277) ++ (⟨#[43]⟩ : ByteArray)).size + a0_4.size ≤ 9223372036854775807 then (some ((((((((⟨#[118]⟩ : ByteArray) ++ t275) ++ (⟨#[46]⟩ : ByteArray)) ++ t276) ++ (⟨#[46]⟩ : ByteArray)) ++ t277) ++ (⟨#[43]⟩ : ByteArray)) ++ a0_4)) else (none)) else (none))) else (if ((((((⟨#[118]⟩ : ByteArray) ++ t275) ++ (⟨#[46]⟩ : ByteArray)) ++ t276) ++ (⟨#[46]⟩ : ByteArray)) ++ t277).size + 1 ≤ 9223372036854775807 then (if (((((((⟨#[118]⟩ : ByteArray) ++ t275) ++ (⟨#[46]⟩ : ByteArray)) ++ t276) ++ (⟨#[46]⟩ : ByteArray)) ++ t277) ++ (⟨#[45]⟩ : ByteArray)).size + a0_3.size ≤ 9223372036854775807 then (if a0_4.toList = ([] : List UInt8) then (some ((((((((⟨#[118]⟩ : ByteArray) ++ t275) ++ (⟨#[46]⟩ : ByteArray)) ++ t276) ++ (⟨#[46]⟩ : ByteArray)) ++ t277) ++ (⟨#[45]⟩ : ByteArray)) ++ a0_3)) else (if ((((((((⟨#[118]⟩ : ByteArray) ++ t275) ++ (⟨#[46]⟩ : ByteArray)) ++ t276) ++ (⟨#[46]⟩ : ByteArray)) ++ t277) ++ (⟨#[45]⟩ : ByteArray)) ++ a0_3).size + 1 ≤ 9223372036854775807 then (if (((((((((⟨#[118]⟩ : ByteArray) ++ t275) ++ (⟨#[46]⟩ : ByteArray)) ++ t276) ++ (⟨#[46]⟩ : ByteArray)) ++ t277) ++ (⟨#[45]⟩ : ByteArray)) ++ a0_3) ++ (⟨#[43]⟩ : ByteArray)).size + a0_4.size ≤ 9223372036854775807 then (some ((((((((((⟨#[118]⟩ : ByteArray) ++ t275) ++ (⟨#[46]⟩ : ByteArray)) ++ t276) ++ (⟨#[46]⟩ : ByteArray)) ++ t277) ++ (⟨#[45]⟩ : ByteArray)) ++ a0_3) ++ (⟨#[43]⟩ : ByteArray)) ++ a0_4)) else (none)) else (none))) else (none)) else (none))) else (none))) else (none)) else (none))) else (none)) else (none))) = some r := by rw [if_pos rfl] at H; exact H
  clear H
  have H := H1
  clear H1
  replace H := Option.bind_eq_some_iff.mp H
  obtain ⟨t275, A40, H⟩ := H
  replace H : (if 1 + t275.size ≤ 9223372036854775807 then (if ((⟨#[118]⟩ : ByteArray) ++ t275).size + 1 ≤ 9223372036854775807 then ((armadaref07_Number.f k a0_1).bind fun t276 => (if (((⟨#[118]⟩ : ByteArray) ++ t275) ++ (⟨#[46]⟩ : ByteArray)).size + t276.size ≤ 9223372036854775807 then (if ((((⟨#[118]⟩ : ByteArray) ++ t275) ++ (⟨#[46]⟩ : ByteArray)) ++ t276).size + 1 ≤ 9223372036854775807 then ((armadaref07_Number.f k a0_2).bind fun t277 => (if (((((⟨#[118]⟩ : ByteArray) ++ t275) ++ (⟨#[46]⟩ : ByteArray)) ++ t276) ++ (⟨#[46]⟩ : ByteArray)).size + t277.size ≤ 9223372036854775807 then (if a0_3.toList = ([] : List UInt8) then (if a0_4.toList = ([] : List UInt8) then (some ((((((⟨#[118]⟩ : ByteArray) ++ t275) ++ (⟨#[46]⟩ : ByteArray)) ++ t276) ++ (⟨#[46]⟩ : ByteArray)) ++ t277)) else (if ((((((⟨#[118]⟩ : ByteArray) ++ t275) ++ (⟨#[46]⟩ : ByteArray)) ++ t276) ++ (⟨#[46]⟩ : ByteArray)) ++ t277).size + 1 ≤ 9223372036854775807 then (if (((((((⟨#[118]⟩ : ByteArray) ++ t275) ++ (⟨#[46]⟩ : ByteArray)) ++ t276) ++ (⟨#[46]⟩ : ByteArray)) ++ t277) ++ (⟨#[43]⟩ : ByteArray)).size + a0_4.size ≤ 9223372036854775807 then (some ((((((((⟨#[118]⟩ : ByteArray) ++ t275) ++ (⟨#[46]⟩ : ByteArray)) ++ t276) ++ (⟨#[46]⟩ : ByteArray)) ++ t277) ++ (⟨#[43]⟩ : ByteArray)) ++ a0_4)) else (none)) else (none))) else (if ((((((⟨#[118]⟩ : ByteArray) ++ t275) ++ (⟨#[46]⟩ : ByteArray)) ++ t276) ++ (⟨#[46]⟩ : ByteArray)) ++ t277).size + 1 ≤ 9223372036854775807 then (if (((((((⟨#[118]⟩ : ByteArray) ++ t275) ++ (⟨#[46]⟩ : ByteArray)) ++ t276) ++ (⟨#[46]⟩ : ByteArray)) ++ t277) ++ (⟨#[45]⟩ : ByteArray)).size + a0_3.size ≤ 9223372036854775807 then (if a0_4.toList = ([] : List UInt8) then (some ((((((((⟨#[118]⟩ : ByteArray) ++ t275) ++ (⟨#[46]⟩ : ByteArray)) ++ t276) ++ (⟨#[46]⟩ : ByteArray)) ++ t277) ++ (⟨#[45]⟩ : ByteArray)) ++ a0_3)) else (if ((((((((⟨#[118]⟩ : ByteArray) ++ t275) ++ (⟨#[46]⟩ : ByteArray)) ++ t276) ++ (⟨#[46]⟩ : ByteArray)) ++ t277) ++ (⟨#[45]⟩ : ByteArray)) ++ a0_3).size + 1 ≤ 9223372036854775807 then (if (((((((((⟨#[118]⟩ : ByteArray) ++ t275) ++ (⟨#[46]⟩ : ByteArray)) ++ t276) ++ (⟨#[46]⟩ : ByteArray)) ++ t277) ++ (⟨#[45]⟩ : ByteArray)) ++ a0_3) ++ (⟨#[43]⟩ : ByteArray)).size + a0_4.size ≤ 9223372036854775807 then (some ((((((((((⟨#[118]⟩ : ByteArray) ++ t275) ++ (⟨#[46]⟩ : ByteArray)) ++ t276) ++ (⟨#[46]⟩ : ByteArray)) ++ t277) ++ (⟨#[45]⟩ : ByteArray)) ++ a0_3) ++ (⟨#[43]⟩ : ByteArray)) ++ a0_4)) else (none)) else (none))) else (none)) else (none))) else (none))) else (none)) else (none))) else (none)) else (none)) = some r := H
  have A4 := Aside0.mk A40
  clear A40
  by_cases c5 : 1 + t275.size ≤ 9223372036854775807
  ·rw [if_pos c5] at H
   have c5b0 := eq_true c5
   have c5b1 : decide (1 + t275.size ≤ 9223372036854775807) = true := decide_eq_true c5
   try have c5b2 : (9223372036854775807 < 1 + t275.size) = False := eq_false (Nat.not_lt.2 c5)
   by_cases c6 : ((⟨#[118]⟩ : ByteArray) ++ t275).size + 1 ≤ 9223372036854775807
   ·rw [if_pos c6] at H
    have c6b0 := eq_true c6
    have c6b1 : decide (((⟨#[118]⟩ : ByteArray) ++ t275).size + 1 ≤ 9223372036854775807) = true := decide_eq_true c6
    try have c6b2 : (9223372036854775807 < ((⟨#[118]⟩ : ByteArray) ++ t275).size + 1) = False := eq_false (Nat.not_lt.2 c6)
    (try (have c6b3 := c6; simp only [show (⟨#[118]⟩ : ByteArray).size = 1 from rfl, ByteArray.size_append, ByteArray.size_extract] at c6b3; have c6b4 := eq_true c6b3; have c6b5 := decide_eq_true c6b3; have c6b6 := eq_false (Nat.not_lt.2 c6b3)))
    replace H := Option.bind_eq_some_iff.mp H
    obtain ⟨t276, A70, H⟩ := H
    replace H : (if (((⟨#[118]⟩ : ByteArray) ++ t275) ++ (⟨#[46]⟩ : ByteArray)).size + t276.size ≤ 9223372036854775807 then (if ((((⟨#[118]⟩ : ByteArray) ++ t275) ++ (⟨#[46]⟩ : ByteArray)) ++ t276).size + 1 ≤ 9223372036854775807 then ((armadaref07_Number.f k a0_2).bind fun t277 => (if (((((⟨#[118]⟩ : ByteArray) ++ t275) ++ (⟨#[46]⟩ : ByteArray)) ++ t276) ++ (⟨#[46]⟩ : ByteArray)).size + t277.size ≤ 9223372036854775807 then (if a0_3.toList = ([] : List UInt8) then (if a0_4.toList = ([] : List UInt8) then (some ((((((⟨#[118]⟩ : ByteArray) ++ t275) ++ (⟨#[46]⟩ : ByteArray)) ++ t276) ++ (⟨#[46]⟩ : ByteArray)) ++ t277)) else (if ((((((⟨#[118]⟩ : ByteArray) ++ t275) ++ (⟨#[46]⟩ : ByteArray)) ++ t276) ++ (⟨#[46]⟩ : ByteArray)) ++ t277).size + 1 ≤ 9223372036854775807 then (if (((((((⟨#[118]⟩ : ByteArray) ++ t275) ++ (⟨#[46]⟩ : ByteArray)) ++ t276) ++ (⟨#[46]⟩ : ByteArray)) ++ t277) ++ (⟨#[43]⟩ : ByteArray)).size + a0_4.size ≤ 9223372036854775807 then (some ((((((((⟨#[118]⟩ : ByteArray) ++ t275) ++ (⟨#[46]⟩ : ByteArray)) ++ t276) ++ (⟨#[46]⟩ : ByteArray)) ++ t277) ++ (⟨#[43]⟩ : ByteArray)) ++ a0_4)) else (none)) else (none))) else (if ((((((⟨#[118]⟩ : ByteArray) ++ t275) ++ (⟨#[46]⟩ : ByteArray)) ++ t276) ++ (⟨#[46]⟩ : ByteArray)) ++ t277).size + 1 ≤ 9223372036854775807 then (if (((((((⟨#[118]⟩ : ByteArray) ++ t275) ++ (⟨#[46]⟩ : ByteArray)) ++ t276) ++ (⟨#[46]⟩ : ByteArray)) ++ t277) ++ (⟨#[45]⟩ : ByteArray)).size + a0_3.size ≤ 9223372036854775807 then (if a0_4.toList = ([] : List UInt8) then (some ((((((((⟨#[118]⟩ : ByteArray) ++ t275) ++ (⟨#[46]⟩ : ByteArray)) ++ t276) ++ (⟨#[46]⟩ : ByteArray)) ++ t277) ++ (⟨#[45]⟩ : ByteArray)) ++ a0_3)) else (if ((((((((⟨#[118]⟩ : ByteArray) ++ t275) ++ (⟨#[46]⟩ : ByteArray)) ++ t276) ++ (⟨#[46]⟩ : ByteArray)) ++ t277) ++ (⟨#[45]⟩ : ByteArray)) ++ a0_3).size + 1 ≤ 9223372036854775807 then (if (((((((((⟨#[118]⟩ : ByteArray) ++ t275) ++ (⟨#[46]⟩ : ByteArray)) ++ t276) ++ (⟨#[46]⟩ : ByteArray)) ++ t277) ++ (⟨#[45]⟩ : ByteArray)) ++ a0_3) ++ (⟨#[43]⟩ : ByteArray)).size + a0_4.size ≤ 9223372036854775807 then (some ((((((((((⟨#[118]⟩ : ByteArray) ++ t275) ++ (⟨#[46]⟩ : ByteArray)) ++ t276) ++ (⟨#[46]⟩ : ByteArray)) ++ t277) ++ (⟨#[45]⟩ : ByteArray)) ++ a0_3) ++ (⟨#[43]⟩ : ByteArray)) ++ a0_4)) else (none)) else (none))) else (none)) else (none))) else (none))) else (none)) else (none)) = some r := H
    have A7 := Aside0.mk A70
    clear A70
    by_cases c8 : (((⟨#[118]⟩ : ByteArray) ++ t275) ++ (⟨#[46]⟩ : ByteArray)).size + t276.size ≤ 9223372036854775807
    ·rw [if_pos c8] at H
     have c8b0 := eq_true c8
     have c8b1 : decide ((((⟨#[118]⟩ : ByteArray) ++ t275) ++ (⟨#[46]⟩ : ByteArray)).size + t276.size ≤ 9223372036854775807) = true := decide_eq_true c8
     try have c8b2 : (9223372036854775807 < (((⟨#[118]⟩ : ByteArray) ++ t275) ++ (⟨#[46]⟩ : ByteArray)).size + t276.size) = False := eq_false (Nat.not_lt.2 c8)
     (try (have c8b3 := c8; simp only [show (⟨#[118]⟩ : ByteArray).size = 1 from rfl, show (⟨#[46]⟩ : ByteArray).size = 1 from rfl, ByteArray.size_append, ByteArray.size_extract] at c8b3; have c8b4 := eq_true c8b3; have c8b5 := decide_eq_true c8b3; have c8b6 := eq_false (Nat.not_lt.2 c8b3)))
     by_cases c9 : ((((⟨#[118]⟩ : ByteArray) ++ t275) ++ (⟨#[46]⟩ : ByteArray)) ++ t276).size + 1 ≤ 9223372036854775807
     ·rw [if_pos c9] at H
      have c9b0 := eq_true c9
      have c9b1 : decide (((((⟨#[118]⟩ : ByteArray) ++ t275) ++ (⟨#[46]⟩ : ByteArray)) ++ t276).size + 1 ≤ 9223372036854775807) = true := decide_eq_true c9
      try have c9b2 : (9223372036854775807 < ((((⟨#[118]⟩ : ByteArray) ++ t275) ++ (⟨#[46]⟩ : ByteArray)) ++ t276).size + 1) = False := eq_false (Nat.not_lt.2 c9)
      (try (have c9b3 := c9; simp only [show (⟨#[118]⟩ : ByteArray).size = 1 from rfl, show (⟨#[46]⟩ : ByteArray).size = 1 from rfl, ByteArray.size_append, ByteArray.size_extract] at c9b3; have c9b4 := eq_true c9b3; have c9b5 := decide_eq_true c9b3; have c9b6 := eq_false (Nat.not_lt.2 c9b3)))
      replace H := Option.bind_eq_some_iff.mp H
      obtain ⟨t277, A100, H⟩ := H
      replace H : (if (((((⟨#[118]⟩ : ByteArray) ++ t275) ++ (⟨#[46]⟩ : ByteArray)) ++ t276) ++ (⟨#[46]⟩ : ByteArray)).size + t277.size ≤ 9223372036854775807 then (if a0_3.toList = ([] : List UInt8) then (if a0_4.toList = ([] : List UInt8) then (some ((((((⟨#[118]⟩ : ByteArray) ++ t275) ++ (⟨#[46]⟩ : ByteArray)) ++ t276) ++ (⟨#[46]⟩ : ByteArray)) ++ t277)) else (if ((((((⟨#[118]⟩ : ByteArray) ++ t275) ++ (⟨#[46]⟩ : ByteArray)) ++ t276) ++ (⟨#[46]⟩ : ByteArray)) ++ t277).size + 1 ≤ 9223372036854775807 then (if (((((((⟨#[118]⟩ : ByteArray) ++ t275) ++ (⟨#[46]⟩ : ByteArray)) ++ t276) ++ (⟨#[46]⟩ : ByteArray)) ++ t277) ++ (⟨#[43]⟩ : ByteArray)).size + a0_4.size ≤ 9223372036854775807 then (some ((((((((⟨#[118]⟩ : ByteArray) ++ t275) ++ (⟨#[46]⟩ : ByteArray)) ++ t276) ++ (⟨#[46]⟩ : ByteArray)) ++ t277) ++ (⟨#[43]⟩ : ByteArray)) ++ a0_4)) else (none)) else (none))) else (if ((((((⟨#[118]⟩ : ByteArray) ++ t275) ++ (⟨#[46]⟩ : ByteArray)) ++ t276) ++ (⟨#[46]⟩ : ByteArray)) ++ t277).size + 1 ≤ 9223372036854775807 then (if (((((((⟨#[118]⟩ : ByteArray) ++ t275) ++ (⟨#[46]⟩ : ByteArray)) ++ t276) ++ (⟨#[46]⟩ : ByteArray)) ++ t277) ++ (⟨#[45]⟩ : ByteArray)).size + a0_3.size ≤ 9223372036854775807 then (if a0_4.toList = ([] : List UInt8) then (some ((((((((⟨#[118]⟩ : ByteArray) ++ t275) ++ (⟨#[46]⟩ : ByteArray)) ++ t276) ++ (⟨#[46]⟩ : ByteArray)) ++ t277) ++ (⟨#[45]⟩ : ByteArray)) ++ a0_3)) else (if ((((((((⟨#[118]⟩ : ByteArray) ++ t275) ++ (⟨#[46]⟩ : ByteArray)) ++ t276) ++ (⟨#[46]⟩ : ByteArray)) ++ t277) ++ (⟨#[45]⟩ : ByteArray)) ++ a0_3).size + 1 ≤ 9223372036854775807 then (if (((((((((⟨#[118]⟩ : ByteArray) ++ t275) ++ (⟨#[46]⟩ : ByteArray)) ++ t276) ++ (⟨#[46]⟩ : ByteArray)) ++ t277) ++ (⟨#[45]⟩ : ByteArray)) ++ a0_3) ++ (⟨#[43]⟩ : ByteArray)).size + a0_4.size ≤ 9223372036854775807 then (some ((((((((((⟨#[118]⟩ : ByteArray) ++ t275) ++ (⟨#[46]⟩ : ByteArray)) ++ t276) ++ (⟨#[46]⟩ : ByteArray)) ++ t277) ++ (⟨#[45]⟩ : ByteArray)) ++ a0_3) ++ (⟨#[43]⟩ : ByteArray)) ++ a0_4)) else (none)) else (none))) else (none)) else (none))) else (none)) = some r := H
      have A10 := Aside0.mk A100
      clear A100
      by_cases c11 : (((((⟨#[118]⟩ : ByteArray) ++ t275) ++ (⟨#[46]⟩ : ByteArray)) ++ t276) ++ (⟨#[46]⟩ : ByteArray)).size + t277.size ≤ 9223372036854775807
      ·rw [if_pos c11] at H
       have c11b0 := eq_true c11
       have c11b1 : decide ((((((⟨#[118]⟩ : ByteArray) ++ t275) ++ (⟨#[46]⟩ : ByteArray)) ++ t276) ++ (⟨#[46]⟩ : ByteArray)).size + t277.size ≤ 9223372036854775807) = true := decide_eq_true c11
       try have c11b2 : (9223372036854775807 < (((((⟨#[118]⟩ : ByteArray) ++ t275) ++ (⟨#[46]⟩ : ByteArray)) ++ t276) ++ (⟨#[46]⟩ : ByteArray)).size + t277.size) = False := eq_false (Nat.not_lt.2 c11)
       (try (have c11b3 := c11; simp only [show (⟨#[118]⟩ : ByteArray).size = 1 from rfl, show (⟨#[46]⟩ : ByteArray).size = 1 from rfl, ByteArray.size_append, ByteArray.size_extract] at c11b3; have c11b4 := eq_true c11b3; have c11b5 := decide_eq_true c11b3; have c11b6 := eq_false (Nat.not_lt.2 c11b3)))
       by_cases c12 : a0_3.toList = ([] : List UInt8)
       ·rw [if_pos c12] at H
        have c12b0 : (a0_3.toList == ([] : List UInt8)) = true := beq_iff_eq.mpr c12
        have c12b1 : (a0_3.toList != ([] : List UInt8)) = false := bne_eq_false_iff_eq.mpr c12
        clear c12
        by_cases c13 : a0_4.toList = ([] : List UInt8)
        ·rw [if_pos c13] at H
         have c13b0 : (a0_4.toList == ([] : List UInt8)) = true := beq_iff_eq.mpr c13
         have c13b1 : (a0_4.toList != ([] : List UInt8)) = false := bne_eq_false_iff_eq.mpr c13
         clear c13
         obtain rfl := Option.some.inj H
         go_enter Tryd.func16, Tryd.ntmps16
         try go_wp2_with (first | ((with_reducible refine gate_dst (N := 1) rfl ?_); refine box_event ?hg (N := 1) ?hd (cs := #[.int .i64 a0_0, .int .i64 a0_1, .int .i64 a0_2, .string a0_3, .string a0_4]) (t := 23) ?hr ?_; (case hd => rfl); (case hg => rfl); (case hr => first | (go_simp; done) | (go_simp; rfl)); intro gb273 hg w14 hbox hb; have n0_ := Aside0.mk (below_step (by repeat (first | (with_reducible first | exact HB.out | apply yA_ | apply yN_ | apply yD_) | exact HB.out)) hb); have n1_ := Aside0.mk (hbox); have n2_ := Aside0.mk ((by rw [hg]; exact (below_size (by repeat (first | (with_reducible first | exact HB.out | apply yA_ | apply yN_ | apply yD_) | exact HB.out))) : w.heap.size ≤ gb273)); have n3_ := Aside0.mk ((by rw [hg]; exact (below_size (by repeat (first | (with_reducible first | exact HB.out | apply yA_ | apply yN_ | apply yD_) | exact HB.out))) : w.heap.size ≤ gb273)); clear HB; have HB := n0_; have BK273 := n1_; have GW273 := n2_; have GE273 := n3_; clear n0_ n1_ n2_ n3_; clear hb hbox hg; have hcz15_0 : w14.cell? ⟨gb273, 0, none⟩ = some (.int .i64 a0_0) := (xC_ BK273.out 0).trans rfl; have hcz15_1 : w14.cell? ⟨gb273, 1, none⟩ = some (.int .i64 a0_1) := (xC_ BK273.out 1).trans rfl; have hcz15_2 : w14.cell? ⟨gb273, 2, none⟩ = some (.int .i64 a0_2) := (xC_ BK273.out 2).trans rfl; have hcz15_3 : w14.cell? ⟨gb273, 3, none⟩ = some (.string a0_3) := (xC_ BK273.out 3).trans rfl; have hcz15_4 : w14.cell? ⟨gb273, 4, none⟩ = some (.string a0_4) := (xC_ BK273.out 4).trans rfl; have hfz15_0 := xF_ BK273.out 0; have hfz15_1 := xF_ BK273.out 1; have hfz15_2 := xF_ BK273.out 2; have hfz15_3 := xF_ BK273.out 3; have hfz15_4 := xF_ BK273.out 4) | ((with_reducible refine gate_callee (f := 14) rfl ?_); refine goesL_ (some 5) rfl rfl Tryd.func14 (by kernel_rfl) rfl #[.agg #[.int .i64 a0_0, .int .i64 a0_1, .int .i64 a0_2, .string a0_3, .string a0_4]] rfl (by (try simp only [List.map_toArray, List.map_cons, List.map_nil]); first | done | rfl) ?_; (with_reducible refine (armadaref07_Check.calls k a0_0 a0_1 a0_2 a0_3 a0_4 true _ A2.out).mono ?_); rintro e w16 ⟨rfl, hb⟩; refine ⟨_, rfl, ?_⟩; have n0_ := Aside0.mk (blk_below (g := gb273) (o := .cells #[.int .i64 a0_0, .int .i64 a0_1, .int .i64 a0_2, .string a0_3, .string a0_4] 23 (0, 0)) (by (with_reducible repeat (first | apply xN_ | apply xD_ | apply xA_)); exact BK273.out) hb); have n1_ := Aside0.mk (below_step (by repeat (first | (with_reducible first | exact HB.out | apply yA_ | apply yN_ | apply yD_ | refine yS_ ?_ GE273.out) | exact HB.out)) hb); clear BK273; clear HB; have BK273 := n0_; have HB := n1_; clear n0_ n1_; (try clear hb); (try clear hb2); (try clear hk); (try clear hi)))
         have n0_ := Aside0.mk (xD_ BK273.out)
         have n1_ := Aside0.mk (yD_ HB.out)
         clear BK273
         clear HB
         have BK273 := n0_
         have HB := n1_
         clear n0_ n1_
         refine start_ (n := 15) (S := fun w' => w'.cell? ⟨gb273, 0, none⟩ = some (.int .i64 a0_0) ∧ w'.cell? ⟨gb273, 1, none⟩ = some (.int .i64 a0_1) ∧ w'.cell? ⟨gb273, 2, none⟩ = some (.int .i64 a0_2) ∧ w'.cell? ⟨gb273, 3, none⟩ = some (.string a0_3) ∧ w'.cell? ⟨gb273, 4, none⟩ = some (.string a0_4)) (ds := []) #[false, false, false, false, false, false, false, false, false, false, false, false, false, false, false] (by kernel_rfl) rfl rfl ⟨(xC_ BK273.out 0).trans rfl, (xC_ BK273.out 1).trans rfl, (xC_ BK273.out 2).trans rfl, (xC_ BK273.out 3).trans rfl, (xC_ BK273.out 4).trans rfl⟩ (fun hHeld => ?_); refine with_tabW armadaref07_Text.tab3 armadaref07_Text.bits3 (fun HT_ HW_ => ?_)
         generalize w16.drew = w17 at BK273 HB hHeld ⊢
         refine pure_ (i := 0) (N := some 7) (v := ?_) (a' := ?_) #[true, false, false, false, false, false, false, false, false, false, false, false, false, false, false] rfl rfl (any_of HT_.out (by kernel_rfl)) (fun _ _ _ h => h) (Or.inl ⟨by rfl, ?_⟩) ?_ ?_
         rotate_left
         ·intro w'
          go_simp
          with_reducible rfl
         rotate_left
         ·simp only [Act.put, List.setIfInBounds_toArray, List.set_cons_zero, List.set_cons_succ, i64_w, i32_w]
          rfl
         refine pure_ (i := 5) (N := some 12) (v := ?_) (a' := ?_) #[true, false, false, false, false, true, false, false, false, false, false, false, false, false, false] rfl rfl (any_of HT_.out (by kernel_rfl)) (fun _ _ _ h => h) (Or.inl ⟨by rfl, ?_⟩) ?_ ?_
         rotate_left
         ·intro w'
          go_simp
          with_reducible rfl
         rotate_left
         ·simp only [Act.put, List.setIfInBounds_toArray, List.set_cons_zero, List.set_cons_succ, i64_w, i32_w]
          rfl
         refine pure_ (i := 10) (N := some 17) (v := ?_) (a' := ?_) #[true, false, false, false, false, true, false, false, false, false, true, false, false, false, false] rfl rfl (any_of HT_.out (by kernel_rfl)) (fun _ _ _ h => h) (Or.inl ⟨by rfl, ?_⟩) ?_ ?_
         rotate_left
         ·intro w'
          go_simp
          with_reducible rfl
         rotate_left
         ·simp only [Act.put, List.setIfInBounds_toArray, List.set_cons_zero, List.set_cons_succ, i64_w, i32_w]
          rfl
         refine take_ (i := 1) (N := some 8) (v := ?_) (a' := ?_) #[true, true, false, false, false, true, false, false, false, false, true, false, false, false, false] rfl rfl (take_ofW HT_.out HW_.out (by kernel_rfl)) (fun _ _ _ h => h) (Or.inl ⟨by rfl, ?_⟩) hHeld ?_ ?_
         rotate_left
         ·rintro w' ⟨s0, s1, s2, s3, s4⟩
          go_simp
          with_reducible rfl
         rotate_left
         ·simp only [Act.put, List.setIfInBounds_toArray, List.set_cons_zero, List.set_cons_succ, i64_w, i32_w]
          rfl
         refine take_ (i := 6) (N := some 13) (v := ?_) (a' := ?_) #[true, true, false, false, false, true, true, false, false, false, true, false, false, false, false] rfl rfl (take_ofW HT_.out HW_.out (by kernel_rfl)) (fun _ _ _ h => h) (Or.inl ⟨by rfl, ?_⟩) hHeld ?_ ?_
         rotate_left
         ·rintro w' ⟨s0, s1, s2, s3, s4⟩
          go_simp
          with_reducible rfl
         rotate_left
         ·simp only [Act.put, List.setIfInBounds_toArray, List.set_cons_zero, List.set_cons_succ, i64_w, i32_w]
          rfl
         refine take_ (i := 11) (N := some 18) (v := ?_) (a' := ?_) #[true, true, false, false, false, true, true, false, false, false, true, true, false, false, false] rfl rfl (take_ofW HT_.out HW_.out (by kernel_rfl)) (fun _ _ _ h => h) (Or.inl ⟨by rfl, ?_⟩) hHeld ?_ ?_
         rotate_left
         ·rintro w' ⟨s0, s1, s2, s3, s4⟩
          go_simp
          with_reducible rfl
         rotate_left
         ·simp only [Act.put, List.setIfInBounds_toArray, List.set_cons_zero, List.set_cons_succ, i64_w, i32_w]
          rfl
         refine one_ (i := 2) (N := some 9) #[true, true, true, false, false, true, true, false, false, false, true, true, false, false, false] rfl rfl (one_of HT_.out (by kernel_rfl)) (by decide) (fun K hK => ?_)
         refine goes_ Tryd.func37 (by kernel_rfl) rfl #[.int .i64 a0_0] (by rfl) rfl rfl (by (try simp only [List.map_toArray, List.map_cons, List.map_nil]); first | done | rfl) ?_
         with_reducible refine (armadaref07_Number.calls k a0_0 t275 _ A4.out).mono ?_
         rintro e w18 ⟨rfl, hb⟩
         refine ⟨_, rfl, ?_⟩
         have n0_ := Aside0.mk (blk_below (g := gb273) (o := .cells #[.int .i64 a0_0, .int .i64 a0_1, .int .i64 a0_2, .string a0_3, .string a0_4] 23 (0, 0)) (by (with_reducible repeat (first | apply xN_ | apply xD_ | apply xA_)); exact BK273.out) hb)
         have n1_ := Aside0.mk (below_step (by repeat (first | (with_reducible first | exact HB.out | apply yA_ | apply yN_ | apply yD_ | refine yS_ ?_ GE273.out) | exact HB.out)) hb)
         clear BK273
         clear HB
         have BK273 := n0_
         have HB := n1_
         clear n0_ n1_
         (try clear hb)
         (try clear hb2)
         (try clear hk)
         (try clear hi)
         refine hK.out _ _ ⟨(xC_ BK273.out 0).trans rfl, (xC_ BK273.out 1).trans rfl, (xC_ BK273.out 2).trans rfl, (xC_ BK273.out 3).trans rfl, (xC_ BK273.out 4).trans rfl⟩ (fun hHeld => ?_)
         clear hK K
         refine norm_ (a' := ?_) ?_ ?_
         rotate_left
         ·show Act.put _ (some 9) _ = _
          simp only [Act.put, List.setIfInBounds_toArray, List.set_cons_zero, List.set_cons_succ, i64_w, i32_w]
          rfl
         refine pure_ (i := 3) (N := some 10) (v := ?_) (a' := ?_) #[true, true, true, true, false, true, true, false, false, false, true, true, false, false, false] rfl rfl (any_of HT_.out (by kernel_rfl)) (fun _ _ _ h => h) (Or.inl ⟨by rfl, ?_⟩) ?_ ?_
         rotate_left
         ·intro w'
          go_simp
          with_reducible rfl
         rotate_left
         ·simp only [Act.put, List.setIfInBounds_toArray, List.set_cons_zero, List.set_cons_succ, i64_w, i32_w]
          rfl
         refine pure_ (i := 4) (N := some 11) (v := ?_) (a' := ?_) #[true, true, true, true, true, true, true, false, false, false, true, true, false, false, false] rfl rfl (any_of HT_.out (by kernel_rfl)) (fun _ _ _ h => h) (Or.inl ⟨by rfl, ?_⟩) ?_ ?_
         rotate_left
         ·intro w'
          go_simp
          with_reducible rfl
         rotate_left
         ·simp only [Act.put, List.setIfInBounds_toArray, List.set_cons_zero, List.set_cons_succ, i64_w, i32_w]
          rfl
         refine one_ (i := 7) (N := some 14) #[true, true, true, true, true, true, true, true, false, false, true, true, false, false, false] rfl rfl (one_of HT_.out (by kernel_rfl)) (by decide) (fun K hK => ?_)
         refine goes_ Tryd.func37 (by kernel_rfl) rfl #[.int .i64 a0_1] (by rfl) rfl rfl (by (try simp only [List.map_toArray, List.map_cons, List.map_nil]); first | done | rfl) ?_
         with_reducible refine (armadaref07_Number.calls k a0_1 t276 _ A7.out).mono ?_
         rintro e w19 ⟨rfl, hb⟩
         refine ⟨_, rfl, ?_⟩
         have n0_ := Aside0.mk (blk_below (g := gb273) (o := .cells #[.int .i64 a0_0, .int .i64 a0_1, .int .i64 a0_2, .string a0_3, .string a0_4] 23 (0, 0)) (by (with_reducible repeat (first | apply xN_ | apply xD_ | apply xA_)); exact BK273.out) hb)
         have n1_ := Aside0.mk (below_step (by repeat (first | (with_reducible first | exact HB.out | apply yA_ | apply yN_ | apply yD_ | refine yS_ ?_ GE273.out) | exact HB.out)) hb)
         clear BK273
         clear HB
         have BK273 := n0_
         have HB := n1_
         clear n0_ n1_
         (try clear hb)
         (try clear hb2)
         (try clear hk)
         (try clear hi)
         refine hK.out _ _ ⟨(xC_ BK273.out 0).trans rfl, (xC_ BK273.out 1).trans rfl, (xC_ BK273.out 2).trans rfl, (xC_ BK273.out 3).trans rfl, (xC_ BK273.out 4).trans rfl⟩ (fun hHeld => ?_)
         clear hK K
         refine norm_ (a' := ?_) ?_ ?_
         rotate_left
         ·show Act.put _ (some 14) _ = _
          simp only [Act.put, List.setIfInBounds_toArray, List.set_cons_zero, List.set_cons_succ, i64_w, i32_w]
          rfl
         refine pure_ (i := 8) (N := some 15) (v := ?_) (a' := ?_) #[true, true, true, true, true, true, true, true, true, false, true, true, false, false, false] rfl rfl (any_of HT_.out (by kernel_rfl)) (fun _ _ _ h => h) (Or.inl ⟨by rfl, ?_⟩) ?_ ?_
         rotate_left
         ·intro w'
          go_simp
          with_reducible rfl
         rotate_left
         ·simp only [Act.put, List.setIfInBounds_toArray, List.set_cons_zero, List.set_cons_succ, i64_w, i32_w]
          rfl
         refine pure_ (i := 9) (N := some 16) (v := ?_) (a' := ?_) #[true, true, true, true, true, true, true, true, true, true, true, true, false, false, false] rfl rfl (any_of HT_.out (by kernel_rfl)) (fun _ _ _ h => h) (Or.inl ⟨by rfl, ?_⟩) ?_ ?_
         rotate_left
         ·intro w'
          go_simp
          with_reducible rfl
         rotate_left
         ·simp only [Act.put, List.setIfInBounds_toArray, List.set_cons_zero, List.set_cons_succ, i64_w, i32_w]
          rfl
         refine one_ (i := 12) (N := some 19) #[true, true, true, true, true, true, true, true, true, true, true, true, true, false, false] rfl rfl (one_of HT_.out (by kernel_rfl)) (by decide) (fun K hK => ?_)
         refine goes_ Tryd.func37 (by kernel_rfl) rfl #[.int .i64 a0_2] (by rfl) rfl rfl (by (try simp only [List.map_toArray, List.map_cons, List.map_nil]); first | done | rfl) ?_
         with_reducible refine (armadaref07_Number.calls k a0_2 t277 _ A10.out).mono ?_
         rintro e w20 ⟨rfl, hb⟩
         refine ⟨_, rfl, ?_⟩
         have n0_ := Aside0.mk (blk_below (g := gb273) (o := .cells #[.int .i64 a0_0, .int .i64 a0_1, .int .i64 a0_2, .string a0_3, .string a0_4] 23 (0, 0)) (by (with_reducible repeat (first | apply xN_ | apply xD_ | apply xA_)); exact BK273.out) hb)
         have n1_ := Aside0.mk (below_step (by repeat (first | (with_reducible first | exact HB.out | apply yA_ | apply yN_ | apply yD_ | refine yS_ ?_ GE273.out) | exact HB.out)) hb)
         clear BK273
         clear HB
         have BK273 := n0_
         have HB := n1_
         clear n0_ n1_
         (try clear hb)
         (try clear hb2)
         (try clear hk)
         (try clear hi)
         refine hK.out _ _ ⟨(xC_ BK273.out 0).trans rfl, (xC_ BK273.out 1).trans rfl, (xC_ BK273.out 2).trans rfl, (xC_ BK273.out 3).trans rfl, (xC_ BK273.out 4).trans rfl⟩ (fun hHeld => ?_)
         clear hK K
         refine norm_ (a' := ?_) ?_ ?_
         rotate_left
         ·show Act.put _ (some 19) _ = _
          simp only [Act.put, List.setIfInBounds_toArray, List.set_cons_zero, List.set_cons_succ, i64_w, i32_w]
          rfl
         refine pure_ (i := 13) (N := some 20) (v := ?_) (a' := ?_) #[true, true, true, true, true, true, true, true, true, true, true, true, true, true, false] rfl rfl (any_of HT_.out (by kernel_rfl)) (fun _ _ _ h => h) (Or.inl ⟨by rfl, ?_⟩) ?_ ?_
         rotate_left
         ·intro w'
          go_simp
          with_reducible rfl
         rotate_left
         ·simp only [Act.put, List.setIfInBounds_toArray, List.set_cons_zero, List.set_cons_succ, i64_w, i32_w]
          rfl
         refine pure_ (i := 14) (N := some 3) (v := ?_) (a' := ?_) #[true, true, true, true, true, true, true, true, true, true, true, true, true, true, true] rfl rfl (any_of HT_.out (by kernel_rfl)) (fun _ _ _ h => h) (Or.inl ⟨by rfl, ?_⟩) ?_ ?_
         rotate_left
         ·intro w'
          go_simp
          with_reducible rfl
         rotate_left
         ·simp only [Act.put, List.setIfInBounds_toArray, List.set_cons_zero, List.set_cons_succ, i64_w, i32_w]
          rfl
         refine done_ (done_of HT_.out (by kernel_rfl)) ?_
         have hcz21_0 : w20.cell? ⟨gb273, 0, none⟩ = some (.int .i64 a0_0) := (xC_ BK273.out 0).trans rfl
         have hcz21_1 : w20.cell? ⟨gb273, 1, none⟩ = some (.int .i64 a0_1) := (xC_ BK273.out 1).trans rfl
         have hcz21_2 : w20.cell? ⟨gb273, 2, none⟩ = some (.int .i64 a0_2) := (xC_ BK273.out 2).trans rfl
         have hcz21_3 : w20.cell? ⟨gb273, 3, none⟩ = some (.string a0_3) := (xC_ BK273.out 3).trans rfl
         have hcz21_4 : w20.cell? ⟨gb273, 4, none⟩ = some (.string a0_4) := (xC_ BK273.out 4).trans rfl
         have hfz21_0 := xF_ BK273.out 0
         have hfz21_1 := xF_ BK273.out 1
         have hfz21_2 := xF_ BK273.out 2
         have hfz21_3 := xF_ BK273.out 3
         have hfz21_4 := xF_ BK273.out 4
         try go_wp2
         go_ret
         exact ⟨by first | rfl | (simp [errW_none, errW_some] <;> rfl) | (simp [*, errW_none, errW_some] <;> rfl), by repeat (first | (with_reducible first | exact HB.out | apply yA_ | apply yN_ | apply yD_ | refine yS_ ?_ GE273.out) | exact HB.out)⟩
        ·rw [if_neg c13] at H
         have c13b0 : (a0_4.toList == ([] : List UInt8)) = false := beq_eq_false_iff_ne.mpr c13
         have c13b1 : (a0_4.toList != ([] : List UInt8)) = true := bne_iff_ne.mpr c13
         by_cases c22 : ((((((⟨#[118]⟩ : ByteArray) ++ t275) ++ (⟨#[46]⟩ : ByteArray)) ++ t276) ++ (⟨#[46]⟩ : ByteArray)) ++ t277).size + 1 ≤ 9223372036854775807
         ·rw [if_pos c22] at H
          have c22b0 := eq_true c22
          have c22b1 : decide (((((((⟨#[118]⟩ : ByteArray) ++ t275) ++ (⟨#[46]⟩ : ByteArray)) ++ t276) ++ (⟨#[46]⟩ : ByteArray)) ++ t277).size + 1 ≤ 9223372036854775807) = true := decide_eq_true c22
          try have c22b2 : (9223372036854775807 < ((((((⟨#[118]⟩ : ByteArray) ++ t275) ++ (⟨#[46]⟩ : ByteArray)) ++ t276) ++ (⟨#[46]⟩ : ByteArray)) ++ t277).size + 1) = False := eq_false (Nat.not_lt.2 c22)
          (try (have c22b3 := c22; simp only [show (⟨#[118]⟩ : ByteArray).size = 1 from rfl, show (⟨#[46]⟩ : ByteArray).size = 1 from rfl, ByteArray.size_append, ByteArray.size_extract] at c22b3; have c22b4 := eq_true c22b3; have c22b5 := decide_eq_true c22b3; have c22b6 := eq_false (Nat.not_lt.2 c22b3)))
          by_cases c23 : (((((((⟨#[118]⟩ : ByteArray) ++ t275) ++ (⟨#[46]⟩ : ByteArray)) ++ t276) ++ (⟨#[46]⟩ : ByteArray)) ++ t277) ++ (⟨#[43]⟩ : ByteArray)).size + a0_4.size ≤ 9223372036854775807
          ·rw [if_pos c23] at H
           have c23b0 := eq_true c23
           have c23b1 : decide ((((((((⟨#[118]⟩ : ByteArray) ++ t275) ++ (⟨#[46]⟩ : ByteArray)) ++ t276) ++ (⟨#[46]⟩ : ByteArray)) ++ t277) ++ (⟨#[43]⟩ : ByteArray)).size + a0_4.size ≤ 9223372036854775807) = true := decide_eq_true c23
           try have c23b2 : (9223372036854775807 < (((((((⟨#[118]⟩ : ByteArray) ++ t275) ++ (⟨#[46]⟩ : ByteArray)) ++ t276) ++ (⟨#[46]⟩ : ByteArray)) ++ t277) ++ (⟨#[43]⟩ : ByteArray)).size + a0_4.size) = False := eq_false (Nat.not_lt.2 c23)
           (try (have c23b3 := c23; simp only [show (⟨#[118]⟩ : ByteArray).size = 1 from rfl, show (⟨#[43]⟩ : ByteArray).size = 1 from rfl, show (⟨#[46]⟩ : ByteArray).size = 1 from rfl, ByteArray.size_append, ByteArray.size_extract] at c23b3; have c23b4 := eq_true c23b3; have c23b5 := decide_eq_true c23b3; have c23b6 := eq_false (Nat.not_lt.2 c23b3)))
           obtain rfl := Option.some.inj H
           go_enter Tryd.func16, Tryd.ntmps16
           try go_wp2_with (first | ((with_reducible refine gate_dst (N := 1) rfl ?_); refine box_event ?hg (N := 1) ?hd (cs := #[.int .i64 a0_0, .int .i64 a0_1, .int .i64 a0_2, .string a0_3, .string a0_4]) (t := 23) ?hr ?_; (case hd => rfl); (case hg => rfl); (case hr => first | (go_simp; done) | (go_simp; rfl)); intro gb273 hg w24 hbox hb; have n0_ := Aside0.mk (below_step (by repeat (first | (with_reducible first | exact HB.out | apply yA_ | apply yN_ | apply yD_) | exact HB.out)) hb); have n1_ := Aside0.mk (hbox); have n2_ := Aside0.mk ((by rw [hg]; exact (below_size (by repeat (first | (with_reducible first | exact HB.out | apply yA_ | apply yN_ | apply yD_) | exact HB.out))) : w.heap.size ≤ gb273)); have n3_ := Aside0.mk ((by rw [hg]; exact (below_size (by repeat (first | (with_reducible first | exact HB.out | apply yA_ | apply yN_ | apply yD_) | exact HB.out))) : w.heap.size ≤ gb273)); clear HB; have HB := n0_; have BK273 := n1_; have GW273 := n2_; have GE273 := n3_; clear n0_ n1_ n2_ n3_; clear hb hbox hg; have hcz25_0 : w24.cell? ⟨gb273, 0, none⟩ = some (.int .i64 a0_0) := (xC_ BK273.out 0).trans rfl; have hcz25_1 : w24.cell? ⟨gb273, 1, none⟩ = some (.int .i64 a0_1) := (xC_ BK273.out 1).trans rfl; have hcz25_2 : w24.cell? ⟨gb273, 2, none⟩ = some (.int .i64 a0_2) := (xC_ BK273.out 2).trans rfl; have hcz25_3 : w24.cell? ⟨gb273, 3, none⟩ = some (.string a0_3) := (xC_ BK273.out 3).trans rfl; have hcz25_4 : w24.cell? ⟨gb273, 4, none⟩ = some (.string a0_4) := (xC_ BK273.out 4).trans rfl; have hfz25_0 := xF_ BK273.out 0; have hfz25_1 := xF_ BK273.out 1; have hfz25_2 := xF_ BK273.out 2; have hfz25_3 := xF_ BK273.out 3; have hfz25_4 := xF_ BK273.out 4) | ((with_reducible refine gate_callee (f := 14) rfl ?_); refine goesL_ (some 5) rfl rfl Tryd.func14 (by kernel_rfl) rfl #[.agg #[.int .i64 a0_0, .int .i64 a0_1, .int .i64 a0_2, .string a0_3, .string a0_4]] rfl (by (try simp only [List.map_toArray, List.map_cons, List.map_nil]); first | done | rfl) ?_; (with_reducible refine (armadaref07_Check.calls k a0_0 a0_1 a0_2 a0_3 a0_4 true _ A2.out).mono ?_); rintro e w26 ⟨rfl, hb⟩; refine ⟨_, rfl, ?_⟩; have n0_ := Aside0.mk (blk_below (g := gb273) (o := .cells #[.int .i64 a0_0, .int .i64 a0_1, .int .i64 a0_2, .string a0_3, .string a0_4] 23 (0, 0)) (by (with_reducible repeat (first | apply xN_ | apply xD_ | apply xA_)); exact BK273.out) hb); have n1_ := Aside0.mk (below_step (by repeat (first | (with_reducible first | exact HB.out | apply yA_ | apply yN_ | apply yD_ | refine yS_ ?_ GE273.out) | exact HB.out)) hb); clear BK273; clear HB; have BK273 := n0_; have HB := n1_; clear n0_ n1_; (try clear hb); (try clear hb2); (try clear hk); (try clear hi)))
           have n0_ := Aside0.mk (xD_ BK273.out)
           have n1_ := Aside0.mk (yD_ HB.out)
           clear BK273
           clear HB
           have BK273 := n0_
           have HB := n1_
           clear n0_ n1_
           refine start_ (n := 15) (S := fun w' => w'.cell? ⟨gb273, 0, none⟩ = some (.int .i64 a0_0) ∧ w'.cell? ⟨gb273, 1, none⟩ = some (.int .i64 a0_1) ∧ w'.cell? ⟨gb273, 2, none⟩ = some (.int .i64 a0_2) ∧ w'.cell? ⟨gb273, 3, none⟩ = some (.string a0_3) ∧ w'.cell? ⟨gb273, 4, none⟩ = some (.string a0_4)) (ds := []) #[false, false, false, false, false, false, false, false, false, false, false, false, false, false, false] (by kernel_rfl) rfl rfl ⟨(xC_ BK273.out 0).trans rfl, (xC_ BK273.out 1).trans rfl, (xC_ BK273.out 2).trans rfl, (xC_ BK273.out 3).trans rfl, (xC_ BK273.out 4).trans rfl⟩ (fun hHeld => ?_); refine with_tabW armadaref07_Text.tab3 armadaref07_Text.bits3 (fun HT_ HW_ => ?_)
           generalize w26.drew = w27 at BK273 HB hHeld ⊢
           refine pure_ (i := 0) (N := some 7) (v := ?_) (a' := ?_) #[true, false, false, false, false, false, false, false, false, false, false, false, false, false, false] rfl rfl (any_of HT_.out (by kernel_rfl)) (fun _ _ _ h => h) (Or.inl ⟨by rfl, ?_⟩) ?_ ?_
           rotate_left
           ·intro w'
            go_simp
            with_reducible rfl
           rotate_left
           ·simp only [Act.put, List.setIfInBounds_toArray, List.set_cons_zero, List.set_cons_succ, i64_w, i32_w]
            rfl
           refine pure_ (i := 5) (N := some 12) (v := ?_) (a' := ?_) #[true, false, false, false, false, true, false, false, false, false, false, false, false, false, false] rfl rfl (any_of HT_.out (by kernel_rfl)) (fun _ _ _ h => h) (Or.inl ⟨by rfl, ?_⟩) ?_ ?_
           rotate_left
           ·intro w'
            go_simp
            with_reducible rfl
           rotate_left
           ·simp only [Act.put, List.setIfInBounds_toArray, List.set_cons_zero, List.set_cons_succ, i64_w, i32_w]
            rfl
           refine pure_ (i := 10) (N := some 17) (v := ?_) (a' := ?_) #[true, false, false, false, false, true, false, false, false, false, true, false, false, false, false] rfl rfl (any_of HT_.out (by kernel_rfl)) (fun _ _ _ h => h) (Or.inl ⟨by rfl, ?_⟩) ?_ ?_
           rotate_left
           ·intro w'
            go_simp
            with_reducible rfl
           rotate_left
           ·simp only [Act.put, List.setIfInBounds_toArray, List.set_cons_zero, List.set_cons_succ, i64_w, i32_w]
            rfl
           refine take_ (i := 1) (N := some 8) (v := ?_) (a' := ?_) #[true, true, false, false, false, true, false, false, false, false, true, false, false, false, false] rfl rfl (take_ofW HT_.out HW_.out (by kernel_rfl)) (fun _ _ _ h => h) (Or.inl ⟨by rfl, ?_⟩) hHeld ?_ ?_
           rotate_left
           ·rintro w' ⟨s0, s1, s2, s3, s4⟩
            go_simp
            with_reducible rfl
           rotate_left
           ·simp only [Act.put, List.setIfInBounds_toArray, List.set_cons_zero, List.set_cons_succ, i64_w, i32_w]
            rfl
           refine take_ (i := 6) (N := some 13) (v := ?_) (a' := ?_) #[true, true, false, false, false, true, true, false, false, false, true, false, false, false, false] rfl rfl (take_ofW HT_.out HW_.out (by kernel_rfl)) (fun _ _ _ h => h) (Or.inl ⟨by rfl, ?_⟩) hHeld ?_ ?_
           rotate_left
           ·rintro w' ⟨s0, s1, s2, s3, s4⟩
            go_simp
            with_reducible rfl
           rotate_left
           ·simp only [Act.put, List.setIfInBounds_toArray, List.set_cons_zero, List.set_cons_succ, i64_w, i32_w]
            rfl
           refine take_ (i := 11) (N := some 18) (v := ?_) (a' := ?_) #[true, true, false, false, false, true, true, false, false, false, true, true, false, false, false] rfl rfl (take_ofW HT_.out HW_.out (by kernel_rfl)) (fun _ _ _ h => h) (Or.inl ⟨by rfl, ?_⟩) hHeld ?_ ?_
           rotate_left
           ·rintro w' ⟨s0, s1, s2, s3, s4⟩
            go_simp
            with_reducible rfl
           rotate_left
           ·simp only [Act.put, List.setIfInBounds_toArray, List.set_cons_zero, List.set_cons_succ, i64_w, i32_w]
            rfl
           refine one_ (i := 2) (N := some 9) #[true, true, true, false, false, true, true, false, false, false, true, true, false, false, false] rfl rfl (one_of HT_.out (by kernel_rfl)) (by decide) (fun K hK => ?_)
           refine goes_ Tryd.func37 (by kernel_rfl) rfl #[.int .i64 a0_0] (by rfl) rfl rfl (by (try simp only [List.map_toArray, List.map_cons, List.map_nil]); first | done | rfl) ?_
           with_reducible refine (armadaref07_Number.calls k a0_0 t275 _ A4.out).mono ?_
           rintro e w28 ⟨rfl, hb⟩
           refine ⟨_, rfl, ?_⟩
           have n0_ := Aside0.mk (blk_below (g := gb273) (o := .cells #[.int .i64 a0_0, .int .i64 a0_1, .int .i64 a0_2, .string a0_3, .string a0_4] 23 (0, 0)) (by (with_reducible repeat (first | apply xN_ | apply xD_ | apply xA_)); exact BK273.out) hb)
           have n1_ := Aside0.mk (below_step (by repeat (first | (with_reducible first | exact HB.out | apply yA_ | apply yN_ | apply yD_ | refine yS_ ?_ GE273.out) | exact HB.out)) hb)
           clear BK273
           clear HB
           have BK273 := n0_
           have HB := n1_
           clear n0_ n1_
           (try clear hb)
           (try clear hb2)
           (try clear hk)
           (try clear hi)
           refine hK.out _ _ ⟨(xC_ BK273.out 0).trans rfl, (xC_ BK273.out 1).trans rfl, (xC_ BK273.out 2).trans rfl, (xC_ BK273.out 3).trans rfl, (xC_ BK273.out 4).trans rfl⟩ (fun hHeld => ?_)
           clear hK K
           refine norm_ (a' := ?_) ?_ ?_
           rotate_left
           ·show Act.put _ (some 9) _ = _
            simp only [Act.put, List.setIfInBounds_toArray, List.set_cons_zero, List.set_cons_succ, i64_w, i32_w]
            rfl
           refine pure_ (i := 3) (N := some 10) (v := ?_) (a' := ?_) #[true, true, true, true, false, true, true, false, false, false, true, true, false, false, false] rfl rfl (any_of HT_.out (by kernel_rfl)) (fun _ _ _ h => h) (Or.inl ⟨by rfl, ?_⟩) ?_ ?_
           rotate_left
           ·intro w'
            go_simp
            with_reducible rfl
           rotate_left
           ·simp only [Act.put, List.setIfInBounds_toArray, List.set_cons_zero, List.set_cons_succ, i64_w, i32_w]
            rfl
           refine pure_ (i := 4) (N := some 11) (v := ?_) (a' := ?_) #[true, true, true, true, true, true, true, false, false, false, true, true, false, false, false] rfl rfl (any_of HT_.out (by kernel_rfl)) (fun _ _ _ h => h) (Or.inl ⟨by rfl, ?_⟩) ?_ ?_
           rotate_left
           ·intro w'
            go_simp
            with_reducible rfl
           rotate_left
           ·simp only [Act.put, List.setIfInBounds_toArray, List.set_cons_zero, List.set_cons_succ, i64_w, i32_w]
            rfl
           refine one_ (i := 7) (N := some 14) #[true, true, true, true, true, true, true, true, false, false, true, true, false, false, false] rfl rfl (one_of HT_.out (by kernel_rfl)) (by decide) (fun K hK => ?_)
           refine goes_ Tryd.func37 (by kernel_rfl) rfl #[.int .i64 a0_1] (by rfl) rfl rfl (by (try simp only [List.map_toArray, List.map_cons, List.map_nil]); first | done | rfl) ?_
           with_reducible refine (armadaref07_Number.calls k a0_1 t276 _ A7.out).mono ?_
           rintro e w29 ⟨rfl, hb⟩
           refine ⟨_, rfl, ?_⟩
           have n0_ := Aside0.mk (blk_below (g := gb273) (o := .cells #[.int .i64 a0_0, .int .i64 a0_1, .int .i64 a0_2, .string a0_3, .string a0_4] 23 (0, 0)) (by (with_reducible repeat (first | apply xN_ | apply xD_ | apply xA_)); exact BK273.out) hb)
           have n1_ := Aside0.mk (below_step (by repeat (first | (with_reducible first | exact HB.out | apply yA_ | apply yN_ | apply yD_ | refine yS_ ?_ GE273.out) | exact HB.out)) hb)
           clear BK273
           clear HB
           have BK273 := n0_
           have HB := n1_
           clear n0_ n1_
           (try clear hb)
           (try clear hb2)
           (try clear hk)
           (try clear hi)
           refine hK.out _ _ ⟨(xC_ BK273.out 0).trans rfl, (xC_ BK273.out 1).trans rfl, (xC_ BK273.out 2).trans rfl, (xC_ BK273.out 3).trans rfl, (xC_ BK273.out 4).trans rfl⟩ (fun hHeld => ?_)
           clear hK K
           refine norm_ (a' := ?_) ?_ ?_
           rotate_left
           ·show Act.put _ (some 14) _ = _
            simp only [Act.put, List.setIfInBounds_toArray, List.set_cons_zero, List.set_cons_succ, i64_w, i32_w]
            rfl
           refine pure_ (i := 8) (N := some 15) (v := ?_) (a' := ?_) #[true, true, true, true, true, true, true, true, true, false, true, true, false, false, false] rfl rfl (any_of HT_.out (by kernel_rfl)) (fun _ _ _ h => h) (Or.inl ⟨by rfl, ?_⟩) ?_ ?_
           rotate_left
           ·intro w'
            go_simp
            with_reducible rfl
           rotate_left
           ·simp only [Act.put, List.setIfInBounds_toArray, List.set_cons_zero, List.set_cons_succ, i64_w, i32_w]
            rfl
           refine pure_ (i := 9) (N := some 16) (v := ?_) (a' := ?_) #[true, true, true, true, true, true, true, true, true, true, true, true, false, false, false] rfl rfl (any_of HT_.out (by kernel_rfl)) (fun _ _ _ h => h) (Or.inl ⟨by rfl, ?_⟩) ?_ ?_
           rotate_left
           ·intro w'
            go_simp
            with_reducible rfl
           rotate_left
           ·simp only [Act.put, List.setIfInBounds_toArray, List.set_cons_zero, List.set_cons_succ, i64_w, i32_w]
            rfl
           refine one_ (i := 12) (N := some 19) #[true, true, true, true, true, true, true, true, true, true, true, true, true, false, false] rfl rfl (one_of HT_.out (by kernel_rfl)) (by decide) (fun K hK => ?_)
           refine goes_ Tryd.func37 (by kernel_rfl) rfl #[.int .i64 a0_2] (by rfl) rfl rfl (by (try simp only [List.map_toArray, List.map_cons, List.map_nil]); first | done | rfl) ?_
           with_reducible refine (armadaref07_Number.calls k a0_2 t277 _ A10.out).mono ?_
           rintro e w30 ⟨rfl, hb⟩
           refine ⟨_, rfl, ?_⟩
           have n0_ := Aside0.mk (blk_below (g := gb273) (o := .cells #[.int .i64 a0_0, .int .i64 a0_1, .int .i64 a0_2, .string a0_3, .string a0_4] 23 (0, 0)) (by (with_reducible repeat (first | apply xN_ | apply xD_ | apply xA_)); exact BK273.out) hb)
           have n1_ := Aside0.mk (below_step (by repeat (first | (with_reducible first | exact HB.out | apply yA_ | apply yN_ | apply yD_ | refine yS_ ?_ GE273.out) | exact HB.out)) hb)
           clear BK273
           clear HB
           have BK273 := n0_
           have HB := n1_
           clear n0_ n1_
           (try clear hb)
           (try clear hb2)
           (try clear hk)
           (try clear hi)
           refine hK.out _ _ ⟨(xC_ BK273.out 0).trans rfl, (xC_ BK273.out 1).trans rfl, (xC_ BK273.out 2).trans rfl, (xC_ BK273.out 3).trans rfl, (xC_ BK273.out 4).trans rfl⟩ (fun hHeld => ?_)
           clear hK K
           refine norm_ (a' := ?_) ?_ ?_
           rotate_left
           ·show Act.put _ (some 19) _ = _
            simp only [Act.put, List.setIfInBounds_toArray, List.set_cons_zero, List.set_cons_succ, i64_w, i32_w]
            rfl
           refine pure_ (i := 13) (N := some 20) (v := ?_) (a' := ?_) #[true, true, true, true, true, true, true, true, true, true, true, true, true, true, false] rfl rfl (any_of HT_.out (by kernel_rfl)) (fun _ _ _ h => h) (Or.inl ⟨by rfl, ?_⟩) ?_ ?_
           rotate_left
           ·intro w'
            go_simp
            with_reducible rfl
           rotate_left
           ·simp only [Act.put, List.setIfInBounds_toArray, List.set_cons_zero, List.set_cons_succ, i64_w, i32_w]
            rfl
           refine pure_ (i := 14) (N := some 3) (v := ?_) (a' := ?_) #[true, true, true, true, true, true, true, true, true, true, true, true, true, true, true] rfl rfl (any_of HT_.out (by kernel_rfl)) (fun _ _ _ h => h) (Or.inl ⟨by rfl, ?_⟩) ?_ ?_
           rotate_left
           ·intro w'
            go_simp
            with_reducible rfl
           rotate_left
           ·simp only [Act.put, List.setIfInBounds_toArray, List.set_cons_zero, List.set_cons_succ, i64_w, i32_w]
            rfl
           refine done_ (done_of HT_.out (by kernel_rfl)) ?_
           have hcz31_0 : w30.cell? ⟨gb273, 0, none⟩ = some (.int .i64 a0_0) := (xC_ BK273.out 0).trans rfl
           have hcz31_1 : w30.cell? ⟨gb273, 1, none⟩ = some (.int .i64 a0_1) := (xC_ BK273.out 1).trans rfl
           have hcz31_2 : w30.cell? ⟨gb273, 2, none⟩ = some (.int .i64 a0_2) := (xC_ BK273.out 2).trans rfl
           have hcz31_3 : w30.cell? ⟨gb273, 3, none⟩ = some (.string a0_3) := (xC_ BK273.out 3).trans rfl
           have hcz31_4 : w30.cell? ⟨gb273, 4, none⟩ = some (.string a0_4) := (xC_ BK273.out 4).trans rfl
           have hfz31_0 := xF_ BK273.out 0
           have hfz31_1 := xF_ BK273.out 1
           have hfz31_2 := xF_ BK273.out 2
           have hfz31_3 := xF_ BK273.out 3
           have hfz31_4 := xF_ BK273.out 4
           try go_wp2
           go_ret
           exact ⟨by first | rfl | (simp [errW_none, errW_some] <;> rfl) | (simp [*, errW_none, errW_some] <;> rfl), by repeat (first | (with_reducible first | exact HB.out | apply yA_ | apply yN_ | apply yD_ | refine yS_ ?_ GE273.out) | exact HB.out)⟩
          ·rw [if_neg c23] at H
           exact absurd H (by simp)
         ·rw [if_neg c22] at H
          exact absurd H (by simp)
       ·rw [if_neg c12] at H
        have c12b0 : (a0_3.toList == ([] : List UInt8)) = false := beq_eq_false_iff_ne.mpr c12
        have c12b1 : (a0_3.toList != ([] : List UInt8)) = true := bne_iff_ne.mpr c12
        by_cases c32 : ((((((⟨#[118]⟩ : ByteArray) ++ t275) ++ (⟨#[46]⟩ : ByteArray)) ++ t276) ++ (⟨#[46]⟩ : ByteArray)) ++ t277).size + 1 ≤ 9223372036854775807
        ·rw [if_pos c32] at H
         have c32b0 := eq_true c32
         have c32b1 : decide (((((((⟨#[118]⟩ : ByteArray) ++ t275) ++ (⟨#[46]⟩ : ByteArray)) ++ t276) ++ (⟨#[46]⟩ : ByteArray)) ++ t277).size + 1 ≤ 9223372036854775807) = true := decide_eq_true c32
         try have c32b2 : (9223372036854775807 < ((((((⟨#[118]⟩ : ByteArray) ++ t275) ++ (⟨#[46]⟩ : ByteArray)) ++ t276) ++ (⟨#[46]⟩ : ByteArray)) ++ t277).size + 1) = False := eq_false (Nat.not_lt.2 c32)
         (try (have c32b3 := c32; simp only [show (⟨#[118]⟩ : ByteArray).size = 1 from rfl, show (⟨#[46]⟩ : ByteArray).size = 1 from rfl, ByteArray.size_append, ByteArray.size_extract] at c32b3; have c32b4 := eq_true c32b3; have c32b5 := decide_eq_true c32b3; have c32b6 := eq_false (Nat.not_lt.2 c32b3)))
         by_cases c33 : (((((((⟨#[118]⟩ : ByteArray) ++ t275) ++ (⟨#[46]⟩ : ByteArray)) ++ t276) ++ (⟨#[46]⟩ : ByteArray)) ++ t277) ++ (⟨#[45]⟩ : ByteArray)).size + a0_3.size ≤ 9223372036854775807
         ·rw [if_pos c33] at H
          have c33b0 := eq_true c33
          have c33b1 : decide ((((((((⟨#[118]⟩ : ByteArray) ++ t275) ++ (⟨#[46]⟩ : ByteArray)) ++ t276) ++ (⟨#[46]⟩ : ByteArray)) ++ t277) ++ (⟨#[45]⟩ : ByteArray)).size + a0_3.size ≤ 9223372036854775807) = true := decide_eq_true c33
          try have c33b2 : (9223372036854775807 < (((((((⟨#[118]⟩ : ByteArray) ++ t275) ++ (⟨#[46]⟩ : ByteArray)) ++ t276) ++ (⟨#[46]⟩ : ByteArray)) ++ t277) ++ (⟨#[45]⟩ : ByteArray)).size + a0_3.size) = False := eq_false (Nat.not_lt.2 c33)
          (try (have c33b3 := c33; simp only [show (⟨#[118]⟩ : ByteArray).size = 1 from rfl, show (⟨#[45]⟩ : ByteArray).size = 1 from rfl, show (⟨#[46]⟩ : ByteArray).size = 1 from rfl, ByteArray.size_append, ByteArray.size_extract] at c33b3; have c33b4 := eq_true c33b3; have c33b5 := decide_eq_true c33b3; have c33b6 := eq_false (Nat.not_lt.2 c33b3)))
          by_cases c34 : a0_4.toList = ([] : List UInt8)
          ·rw [if_pos c34] at H
           have c34b0 : (a0_4.toList == ([] : List UInt8)) = true := beq_iff_eq.mpr c34
           have c34b1 : (a0_4.toList != ([] : List UInt8)) = false := bne_eq_false_iff_eq.mpr c34
           clear c34
           obtain rfl := Option.some.inj H
           go_enter Tryd.func16, Tryd.ntmps16
           try go_wp2_with (first | ((with_reducible refine gate_dst (N := 1) rfl ?_); refine box_event ?hg (N := 1) ?hd (cs := #[.int .i64 a0_0, .int .i64 a0_1, .int .i64 a0_2, .string a0_3, .string a0_4]) (t := 23) ?hr ?_; (case hd => rfl); (case hg => rfl); (case hr => first | (go_simp; done) | (go_simp; rfl)); intro gb273 hg w35 hbox hb; have n0_ := Aside0.mk (below_step (by repeat (first | (with_reducible first | exact HB.out | apply yA_ | apply yN_ | apply yD_) | exact HB.out)) hb); have n1_ := Aside0.mk (hbox); have n2_ := Aside0.mk ((by rw [hg]; exact (below_size (by repeat (first | (with_reducible first | exact HB.out | apply yA_ | apply yN_ | apply yD_) | exact HB.out))) : w.heap.size ≤ gb273)); have n3_ := Aside0.mk ((by rw [hg]; exact (below_size (by repeat (first | (with_reducible first | exact HB.out | apply yA_ | apply yN_ | apply yD_) | exact HB.out))) : w.heap.size ≤ gb273)); clear HB; have HB := n0_; have BK273 := n1_; have GW273 := n2_; have GE273 := n3_; clear n0_ n1_ n2_ n3_; clear hb hbox hg; have hcz36_0 : w35.cell? ⟨gb273, 0, none⟩ = some (.int .i64 a0_0) := (xC_ BK273.out 0).trans rfl; have hcz36_1 : w35.cell? ⟨gb273, 1, none⟩ = some (.int .i64 a0_1) := (xC_ BK273.out 1).trans rfl; have hcz36_2 : w35.cell? ⟨gb273, 2, none⟩ = some (.int .i64 a0_2) := (xC_ BK273.out 2).trans rfl; have hcz36_3 : w35.cell? ⟨gb273, 3, none⟩ = some (.string a0_3) := (xC_ BK273.out 3).trans rfl; have hcz36_4 : w35.cell? ⟨gb273, 4, none⟩ = some (.string a0_4) := (xC_ BK273.out 4).trans rfl; have hfz36_0 := xF_ BK273.out 0; have hfz36_1 := xF_ BK273.out 1; have hfz36_2 := xF_ BK273.out 2; have hfz36_3 := xF_ BK273.out 3; have hfz36_4 := xF_ BK273.out 4) | ((with_reducible refine gate_callee (f := 14) rfl ?_); refine goesL_ (some 5) rfl rfl Tryd.func14 (by kernel_rfl) rfl #[.agg #[.int .i64 a0_0, .int .i64 a0_1, .int .i64 a0_2, .string a0_3, .string a0_4]] rfl (by (try simp only [List.map_toArray, List.map_cons, List.map_nil]); first | done | rfl) ?_; (with_reducible refine (armadaref07_Check.calls k a0_0 a0_1 a0_2 a0_3 a0_4 true _ A2.out).mono ?_); rintro e w37 ⟨rfl, hb⟩; refine ⟨_, rfl, ?_⟩; have n0_ := Aside0.mk (blk_below (g := gb273) (o := .cells #[.int .i64 a0_0, .int .i64 a0_1, .int .i64 a0_2, .string a0_3, .string a0_4] 23 (0, 0)) (by (with_reducible repeat (first | apply xN_ | apply xD_ | apply xA_)); exact BK273.out) hb); have n1_ := Aside0.mk (below_step (by repeat (first | (with_reducible first | exact HB.out | apply yA_ | apply yN_ | apply yD_ | refine yS_ ?_ GE273.out) | exact HB.out)) hb); clear BK273; clear HB; have BK273 := n0_; have HB := n1_; clear n0_ n1_; (try clear hb); (try clear hb2); (try clear hk); (try clear hi)))
           have n0_ := Aside0.mk (xD_ BK273.out)
           have n1_ := Aside0.mk (yD_ HB.out)
           clear BK273
           clear HB
           have BK273 := n0_
           have HB := n1_
           clear n0_ n1_
           refine start_ (n := 15) (S := fun w' => w'.cell? ⟨gb273, 0, none⟩ = some (.int .i64 a0_0) ∧ w'.cell? ⟨gb273, 1, none⟩ = some (.int .i64 a0_1) ∧ w'.cell? ⟨gb273, 2, none⟩ = some (.int .i64 a0_2) ∧ w'.cell? ⟨gb273, 3, none⟩ = some (.string a0_3) ∧ w'.cell? ⟨gb273, 4, none⟩ = some (.string a0_4)) (ds := []) #[false, false, false, false, false, false, false, false, false, false, false, false, false, false, false] (by kernel_rfl) rfl rfl ⟨(xC_ BK273.out 0).trans rfl, (xC_ BK273.out 1).trans rfl, (xC_ BK273.out 2).trans rfl, (xC_ BK273.out 3).trans rfl, (xC_ BK273.out 4).trans rfl⟩ (fun hHeld => ?_); refine with_tabW armadaref07_Text.tab3 armadaref07_Text.bits3 (fun HT_ HW_ => ?_)
           generalize w37.drew = w38 at BK273 HB hHeld ⊢
           refine pure_ (i := 0) (N := some 7) (v := ?_) (a' := ?_) #[true, false, false, false, false, false, false, false, false, false, false, false, false, false, false] rfl rfl (any_of HT_.out (by kernel_rfl)) (fun _ _ _ h => h) (Or.inl ⟨by rfl, ?_⟩) ?_ ?_
           rotate_left
           ·intro w'
            go_simp
            with_reducible rfl
           rotate_left
           ·simp only [Act.put, List.setIfInBounds_toArray, List.set_cons_zero, List.set_cons_succ, i64_w, i32_w]
            rfl
           refine pure_ (i := 5) (N := some 12) (v := ?_) (a' := ?_) #[true, false, false, false, false, true, false, false, false, false, false, false, false, false, false] rfl rfl (any_of HT_.out (by kernel_rfl)) (fun _ _ _ h => h) (Or.inl ⟨by rfl, ?_⟩) ?_ ?_
           rotate_left
           ·intro w'
            go_simp
            with_reducible rfl
           rotate_left
           ·simp only [Act.put, List.setIfInBounds_toArray, List.set_cons_zero, List.set_cons_succ, i64_w, i32_w]
            rfl
           refine pure_ (i := 10) (N := some 17) (v := ?_) (a' := ?_) #[true, false, false, false, false, true, false, false, false, false, true, false, false, false, false] rfl rfl (any_of HT_.out (by kernel_rfl)) (fun _ _ _ h => h) (Or.inl ⟨by rfl, ?_⟩) ?_ ?_
           rotate_left
           ·intro w'
            go_simp
            with_reducible rfl
           rotate_left
           ·simp only [Act.put, List.setIfInBounds_toArray, List.set_cons_zero, List.set_cons_succ, i64_w, i32_w]
            rfl
           refine take_ (i := 1) (N := some 8) (v := ?_) (a' := ?_) #[true, true, false, false, false, true, false, false, false, false, true, false, false, false, false] rfl rfl (take_ofW HT_.out HW_.out (by kernel_rfl)) (fun _ _ _ h => h) (Or.inl ⟨by rfl, ?_⟩) hHeld ?_ ?_
           rotate_left
           ·rintro w' ⟨s0, s1, s2, s3, s4⟩
            go_simp
            with_reducible rfl
           rotate_left
           ·simp only [Act.put, List.setIfInBounds_toArray, List.set_cons_zero, List.set_cons_succ, i64_w, i32_w]
            rfl
           refine take_ (i := 6) (N := some 13) (v := ?_) (a' := ?_) #[true, true, false, false, false, true, true, false, false, false, true, false, false, false, false] rfl rfl (take_ofW HT_.out HW_.out (by kernel_rfl)) (fun _ _ _ h => h) (Or.inl ⟨by rfl, ?_⟩) hHeld ?_ ?_
           rotate_left
           ·rintro w' ⟨s0, s1, s2, s3, s4⟩
            go_simp
            with_reducible rfl
           rotate_left
           ·simp only [Act.put, List.setIfInBounds_toArray, List.set_cons_zero, List.set_cons_succ, i64_w, i32_w]
            rfl
           refine take_ (i := 11) (N := some 18) (v := ?_) (a' := ?_) #[true, true, false, false, false, true, true, false, false, false, true, true, false, false, false] rfl rfl (take_ofW HT_.out HW_.out (by kernel_rfl)) (fun _ _ _ h => h) (Or.inl ⟨by rfl, ?_⟩) hHeld ?_ ?_
           rotate_left
           ·rintro w' ⟨s0, s1, s2, s3, s4⟩
            go_simp
            with_reducible rfl
           rotate_left
           ·simp only [Act.put, List.setIfInBounds_toArray, List.set_cons_zero, List.set_cons_succ, i64_w, i32_w]
            rfl
           refine one_ (i := 2) (N := some 9) #[true, true, true, false, false, true, true, false, false, false, true, true, false, false, false] rfl rfl (one_of HT_.out (by kernel_rfl)) (by decide) (fun K hK => ?_)
           refine goes_ Tryd.func37 (by kernel_rfl) rfl #[.int .i64 a0_0] (by rfl) rfl rfl (by (try simp only [List.map_toArray, List.map_cons, List.map_nil]); first | done | rfl) ?_
           with_reducible refine (armadaref07_Number.calls k a0_0 t275 _ A4.out).mono ?_
           rintro e w39 ⟨rfl, hb⟩
           refine ⟨_, rfl, ?_⟩
           have n0_ := Aside0.mk (blk_below (g := gb273) (o := .cells #[.int .i64 a0_0, .int .i64 a0_1, .int .i64 a0_2, .string a0_3, .string a0_4] 23 (0, 0)) (by (with_reducible repeat (first | apply xN_ | apply xD_ | apply xA_)); exact BK273.out) hb)
           have n1_ := Aside0.mk (below_step (by repeat (first | (with_reducible first | exact HB.out | apply yA_ | apply yN_ | apply yD_ | refine yS_ ?_ GE273.out) | exact HB.out)) hb)
           clear BK273
           clear HB
           have BK273 := n0_
           have HB := n1_
           clear n0_ n1_
           (try clear hb)
           (try clear hb2)
           (try clear hk)
           (try clear hi)
           refine hK.out _ _ ⟨(xC_ BK273.out 0).trans rfl, (xC_ BK273.out 1).trans rfl, (xC_ BK273.out 2).trans rfl, (xC_ BK273.out 3).trans rfl, (xC_ BK273.out 4).trans rfl⟩ (fun hHeld => ?_)
           clear hK K
           refine norm_ (a' := ?_) ?_ ?_
           rotate_left
           ·show Act.put _ (some 9) _ = _
            simp only [Act.put, List.setIfInBounds_toArray, List.set_cons_zero, List.set_cons_succ, i64_w, i32_w]
            rfl
           refine pure_ (i := 3) (N := some 10) (v := ?_) (a' := ?_) #[true, true, true, true, false, true, true, false, false, false, true, true, false, false, false] rfl rfl (any_of HT_.out (by kernel_rfl)) (fun _ _ _ h => h) (Or.inl ⟨by rfl, ?_⟩) ?_ ?_
           rotate_left
           ·intro w'
            go_simp
            with_reducible rfl
           rotate_left
           ·simp only [Act.put, List.setIfInBounds_toArray, List.set_cons_zero, List.set_cons_succ, i64_w, i32_w]
            rfl
           refine pure_ (i := 4) (N := some 11) (v := ?_) (a' := ?_) #[true, true, true, true, true, true, true, false, false, false, true, true, false, false, false] rfl rfl (any_of HT_.out (by kernel_rfl)) (fun _ _ _ h => h) (Or.inl ⟨by rfl, ?_⟩) ?_ ?_
           rotate_left
           ·intro w'
            go_simp
            with_reducible rfl
           rotate_left
           ·simp only [Act.put, List.setIfInBounds_toArray, List.set_cons_zero, List.set_cons_succ, i64_w, i32_w]
            rfl
           refine one_ (i := 7) (N := some 14) #[true, true, true, true, true, true, true, true, false, false, true, true, false, false, false] rfl rfl (one_of HT_.out (by kernel_rfl)) (by decide) (fun K hK => ?_)
           refine goes_ Tryd.func37 (by kernel_rfl) rfl #[.int .i64 a0_1] (by rfl) rfl rfl (by (try simp only [List.map_toArray, List.map_cons, List.map_nil]); first | done | rfl) ?_
           with_reducible refine (armadaref07_Number.calls k a0_1 t276 _ A7.out).mono ?_
           rintro e w40 ⟨rfl, hb⟩
           refine ⟨_, rfl, ?_⟩
           have n0_ := Aside0.mk (blk_below (g := gb273) (o := .cells #[.int .i64 a0_0, .int .i64 a0_1, .int .i64 a0_2, .string a0_3, .string a0_4] 23 (0, 0)) (by (with_reducible repeat (first | apply xN_ | apply xD_ | apply xA_)); exact BK273.out) hb)
           have n1_ := Aside0.mk (below_step (by repeat (first | (with_reducible first | exact HB.out | apply yA_ | apply yN_ | apply yD_ | refine yS_ ?_ GE273.out) | exact HB.out)) hb)
           clear BK273
           clear HB
           have BK273 := n0_
           have HB := n1_
           clear n0_ n1_
           (try clear hb)
           (try clear hb2)
           (try clear hk)
           (try clear hi)
           refine hK.out _ _ ⟨(xC_ BK273.out 0).trans rfl, (xC_ BK273.out 1).trans rfl, (xC_ BK273.out 2).trans rfl, (xC_ BK273.out 3).trans rfl, (xC_ BK273.out 4).trans rfl⟩ (fun hHeld => ?_)
           clear hK K
           refine norm_ (a' := ?_) ?_ ?_
           rotate_left
           ·show Act.put _ (some 14) _ = _
            simp only [Act.put, List.setIfInBounds_toArray, List.set_cons_zero, List.set_cons_succ, i64_w, i32_w]
            rfl
           refine pure_ (i := 8) (N := some 15) (v := ?_) (a' := ?_) #[true, true, true, true, true, true, true, true, true, false, true, true, false, false, false] rfl rfl (any_of HT_.out (by kernel_rfl)) (fun _ _ _ h => h) (Or.inl ⟨by rfl, ?_⟩) ?_ ?_
           rotate_left
           ·intro w'
            go_simp
            with_reducible rfl
           rotate_left
           ·simp only [Act.put, List.setIfInBounds_toArray, List.set_cons_zero, List.set_cons_succ, i64_w, i32_w]
            rfl
           refine pure_ (i := 9) (N := some 16) (v := ?_) (a' := ?_) #[true, true, true, true, true, true, true, true, true, true, true, true, false, false, false] rfl rfl (any_of HT_.out (by kernel_rfl)) (fun _ _ _ h => h) (Or.inl ⟨by rfl, ?_⟩) ?_ ?_
           rotate_left
           ·intro w'
            go_simp
            with_reducible rfl
           rotate_left
           ·simp only [Act.put, List.setIfInBounds_toArray, List.set_cons_zero, List.set_cons_succ, i64_w, i32_w]
            rfl
           refine one_ (i := 12) (N := some 19) #[true, true, true, true, true, true, true, true, true, true, true, true, true, false, false] rfl rfl (one_of HT_.out (by kernel_rfl)) (by decide) (fun K hK => ?_)
           refine goes_ Tryd.func37 (by kernel_rfl) rfl #[.int .i64 a0_2] (by rfl) rfl rfl (by (try simp only [List.map_toArray, List.map_cons, List.map_nil]); first | done | rfl) ?_
           with_reducible refine (armadaref07_Number.calls k a0_2 t277 _ A10.out).mono ?_
           rintro e w41 ⟨rfl, hb⟩
           refine ⟨_, rfl, ?_⟩
           have n0_ := Aside0.mk (blk_below (g := gb273) (o := .cells #[.int .i64 a0_0, .int .i64 a0_1, .int .i64 a0_2, .string a0_3, .string a0_4] 23 (0, 0)) (by (with_reducible repeat (first | apply xN_ | apply xD_ | apply xA_)); exact BK273.out) hb)
           have n1_ := Aside0.mk (below_step (by repeat (first | (with_reducible first | exact HB.out | apply yA_ | apply yN_ | apply yD_ | refine yS_ ?_ GE273.out) | exact HB.out)) hb)
           clear BK273
           clear HB
           have BK273 := n0_
           have HB := n1_
           clear n0_ n1_
           (try clear hb)
           (try clear hb2)
           (try clear hk)
           (try clear hi)
           refine hK.out _ _ ⟨(xC_ BK273.out 0).trans rfl, (xC_ BK273.out 1).trans rfl, (xC_ BK273.out 2).trans rfl, (xC_ BK273.out 3).trans rfl, (xC_ BK273.out 4).trans rfl⟩ (fun hHeld => ?_)
           clear hK K
           refine norm_ (a' := ?_) ?_ ?_
           rotate_left
           ·show Act.put _ (some 19) _ = _
            simp only [Act.put, List.setIfInBounds_toArray, List.set_cons_zero, List.set_cons_succ, i64_w, i32_w]
            rfl
           refine pure_ (i := 13) (N := some 20) (v := ?_) (a' := ?_) #[true, true, true, true, true, true, true, true, true, true, true, true, true, true, false] rfl rfl (any_of HT_.out (by kernel_rfl)) (fun _ _ _ h => h) (Or.inl ⟨by rfl, ?_⟩) ?_ ?_
           rotate_left
           ·intro w'
            go_simp
            with_reducible rfl
           rotate_left
           ·simp only [Act.put, List.setIfInBounds_toArray, List.set_cons_zero, List.set_cons_succ, i64_w, i32_w]
            rfl
           refine pure_ (i := 14) (N := some 3) (v := ?_) (a' := ?_) #[true, true, true, true, true, true, true, true, true, true, true, true, true, true, true] rfl rfl (any_of HT_.out (by kernel_rfl)) (fun _ _ _ h => h) (Or.inl ⟨by rfl, ?_⟩) ?_ ?_
           rotate_left
           ·intro w'
            go_simp
            with_reducible rfl
           rotate_left
           ·simp only [Act.put, List.setIfInBounds_toArray, List.set_cons_zero, List.set_cons_succ, i64_w, i32_w]
            rfl
           refine done_ (done_of HT_.out (by kernel_rfl)) ?_
           have hcz42_0 : w41.cell? ⟨gb273, 0, none⟩ = some (.int .i64 a0_0) := (xC_ BK273.out 0).trans rfl
           have hcz42_1 : w41.cell? ⟨gb273, 1, none⟩ = some (.int .i64 a0_1) := (xC_ BK273.out 1).trans rfl
           have hcz42_2 : w41.cell? ⟨gb273, 2, none⟩ = some (.int .i64 a0_2) := (xC_ BK273.out 2).trans rfl
           have hcz42_3 : w41.cell? ⟨gb273, 3, none⟩ = some (.string a0_3) := (xC_ BK273.out 3).trans rfl
           have hcz42_4 : w41.cell? ⟨gb273, 4, none⟩ = some (.string a0_4) := (xC_ BK273.out 4).trans rfl
           have hfz42_0 := xF_ BK273.out 0
           have hfz42_1 := xF_ BK273.out 1
           have hfz42_2 := xF_ BK273.out 2
           have hfz42_3 := xF_ BK273.out 3
           have hfz42_4 := xF_ BK273.out 4
           try go_wp2
           go_ret
           exact ⟨by first | rfl | (simp [errW_none, errW_some] <;> rfl) | (simp [*, errW_none, errW_some] <;> rfl), by repeat (first | (with_reducible first | exact HB.out | apply yA_ | apply yN_ | apply yD_ | refine yS_ ?_ GE273.out) | exact HB.out)⟩
          ·rw [if_neg c34] at H
           have c34b0 : (a0_4.toList == ([] : List UInt8)) = false := beq_eq_false_iff_ne.mpr c34
           have c34b1 : (a0_4.toList != ([] : List UInt8)) = true := bne_iff_ne.mpr c34
           by_cases c43 : ((((((((⟨#[118]⟩ : ByteArray) ++ t275) ++ (⟨#[46]⟩ : ByteArray)) ++ t276) ++ (⟨#[46]⟩ : ByteArray)) ++ t277) ++ (⟨#[45]⟩ : ByteArray)) ++ a0_3).size + 1 ≤ 9223372036854775807
           ·rw [if_pos c43] at H
            have c43b0 := eq_true c43
            have c43b1 : decide (((((((((⟨#[118]⟩ : ByteArray) ++ t275) ++ (⟨#[46]⟩ : ByteArray)) ++ t276) ++ (⟨#[46]⟩ : ByteArray)) ++ t277) ++ (⟨#[45]⟩ : ByteArray)) ++ a0_3).size + 1 ≤ 9223372036854775807) = true := decide_eq_true c43
            try have c43b2 : (9223372036854775807 < ((((((((⟨#[118]⟩ : ByteArray) ++ t275) ++ (⟨#[46]⟩ : ByteArray)) ++ t276) ++ (⟨#[46]⟩ : ByteArray)) ++ t277) ++ (⟨#[45]⟩ : ByteArray)) ++ a0_3).size + 1) = False := eq_false (Nat.not_lt.2 c43)
            (try (have c43b3 := c43; simp only [show (⟨#[118]⟩ : ByteArray).size = 1 from rfl, show (⟨#[45]⟩ : ByteArray).size = 1 from rfl, show (⟨#[46]⟩ : ByteArray).size = 1 from rfl, ByteArray.size_append, ByteArray.size_extract] at c43b3; have c43b4 := eq_true c43b3; have c43b5 := decide_eq_true c43b3; have c43b6 := eq_false (Nat.not_lt.2 c43b3)))
            by_cases c44 : (((((((((⟨#[118]⟩ : ByteArray) ++ t275) ++ (⟨#[46]⟩ : ByteArray)) ++ t276) ++ (⟨#[46]⟩ : ByteArray)) ++ t277) ++ (⟨#[45]⟩ : ByteArray)) ++ a0_3) ++ (⟨#[43]⟩ : ByteArray)).size + a0_4.size ≤ 9223372036854775807
            ·rw [if_pos c44] at H
             have c44b0 := eq_true c44
             have c44b1 : decide ((((((((((⟨#[118]⟩ : ByteArray) ++ t275) ++ (⟨#[46]⟩ : ByteArray)) ++ t276) ++ (⟨#[46]⟩ : ByteArray)) ++ t277) ++ (⟨#[45]⟩ : ByteArray)) ++ a0_3) ++ (⟨#[43]⟩ : ByteArray)).size + a0_4.size ≤ 9223372036854775807) = true := decide_eq_true c44
             try have c44b2 : (9223372036854775807 < (((((((((⟨#[118]⟩ : ByteArray) ++ t275) ++ (⟨#[46]⟩ : ByteArray)) ++ t276) ++ (⟨#[46]⟩ : ByteArray)) ++ t277) ++ (⟨#[45]⟩ : ByteArray)) ++ a0_3) ++ (⟨#[43]⟩ : ByteArray)).size + a0_4.size) = False := eq_false (Nat.not_lt.2 c44)
             (try (have c44b3 := c44; simp only [show (⟨#[118]⟩ : ByteArray).size = 1 from rfl, show (⟨#[43]⟩ : ByteArray).size = 1 from rfl, show (⟨#[45]⟩ : ByteArray).size = 1 from rfl, show (⟨#[46]⟩ : ByteArray).size = 1 from rfl, ByteArray.size_append, ByteArray.size_extract] at c44b3; have c44b4 := eq_true c44b3; have c44b5 := decide_eq_true c44b3; have c44b6 := eq_false (Nat.not_lt.2 c44b3)))
             obtain rfl := Option.some.inj H
             go_enter Tryd.func16, Tryd.ntmps16
             try go_wp2_with (first | ((with_reducible refine gate_dst (N := 1) rfl ?_); refine box_event ?hg (N := 1) ?hd (cs := #[.int .i64 a0_0, .int .i64 a0_1, .int .i64 a0_2, .string a0_3, .string a0_4]) (t := 23) ?hr ?_; (case hd => rfl); (case hg => rfl); (case hr => first | (go_simp; done) | (go_simp; rfl)); intro gb273 hg w45 hbox hb; have n0_ := Aside0.mk (below_step (by repeat (first | (with_reducible first | exact HB.out | apply yA_ | apply yN_ | apply yD_) | exact HB.out)) hb); have n1_ := Aside0.mk (hbox); have n2_ := Aside0.mk ((by rw [hg]; exact (below_size (by repeat (first | (with_reducible first | exact HB.out | apply yA_ | apply yN_ | apply yD_) | exact HB.out))) : w.heap.size ≤ gb273)); have n3_ := Aside0.mk ((by rw [hg]; exact (below_size (by repeat (first | (with_reducible first | exact HB.out | apply yA_ | apply yN_ | apply yD_) | exact HB.out))) : w.heap.size ≤ gb273)); clear HB; have HB := n0_; have BK273 := n1_; have GW273 := n2_; have GE273 := n3_; clear n0_ n1_ n2_ n3_; clear hb hbox hg; have hcz46_0 : w45.cell? ⟨gb273, 0, none⟩ = some (.int .i64 a0_0) := (xC_ BK273.out 0).trans rfl; have hcz46_1 : w45.cell? ⟨gb273, 1, none⟩ = some (.int .i64 a0_1) := (xC_ BK273.out 1).trans rfl; have hcz46_2 : w45.cell? ⟨gb273, 2, none⟩ = some (.int .i64 a0_2) := (xC_ BK273.out 2).trans rfl; have hcz46_3 : w45.cell? ⟨gb273, 3, none⟩ = some (.string a0_3) := (xC_ BK273.out 3).trans rfl; have hcz46_4 : w45.cell? ⟨gb273, 4, none⟩ = some (.string a0_4) := (xC_ BK273.out 4).trans rfl; have hfz46_0 := xF_ BK273.out 0; have hfz46_1 := xF_ BK273.out 1; have hfz46_2 := xF_ BK273.out 2; have hfz46_3 := xF_ BK273.out 3; have hfz46_4 := xF_ BK273.out 4) | ((with_reducible refine gate_callee (f := 14) rfl ?_); refine goesL_ (some 5) rfl rfl Tryd.func14 (by kernel_rfl) rfl #[.agg #[.int .i64 a0_0, .int .i64 a0_1, .int .i64 a0_2, .string a0_3, .string a0_4]] rfl (by (try simp only [List.map_toArray, List.map_cons, List.map_nil]); first | done | rfl) ?_; (with_reducible refine (armadaref07_Check.calls k a0_0 a0_1 a0_2 a0_3 a0_4 true _ A2.out).mono ?_); rintro e w47 ⟨rfl, hb⟩; refine ⟨_, rfl, ?_⟩; have n0_ := Aside0.mk (blk_below (g := gb273) (o := .cells #[.int .i64 a0_0, .int .i64 a0_1, .int .i64 a0_2, .string a0_3, .string a0_4] 23 (0, 0)) (by (with_reducible repeat (first | apply xN_ | apply xD_ | apply xA_)); exact BK273.out) hb); have n1_ := Aside0.mk (below_step (by repeat (first | (with_reducible first | exact HB.out | apply yA_ | apply yN_ | apply yD_ | refine yS_ ?_ GE273.out) | exact HB.out)) hb); clear BK273; clear HB; have BK273 := n0_; have HB := n1_; clear n0_ n1_; (try clear hb); (try clear hb2); (try clear hk); (try clear hi)))
             have n0_ := Aside0.mk (xD_ BK273.out)
             have n1_ := Aside0.mk (yD_ HB.out)
             clear BK273
             clear HB
             have BK273 := n0_
             have HB := n1_
             clear n0_ n1_
             refine start_ (n := 15) (S := fun w' => w'.cell? ⟨gb273, 0, none⟩ = some (.int .i64 a0_0) ∧ w'.cell? ⟨gb273, 1, none⟩ = some (.int .i64 a0_1) ∧ w'.cell? ⟨gb273, 2, none⟩ = some (.int .i64 a0_2) ∧ w'.cell? ⟨gb273, 3, none⟩ = some (.string a0_3) ∧ w'.cell? ⟨gb273, 4, none⟩ = some (.string a0_4)) (ds := []) #[false, false, false, false, false, false, false, false, false, false, false, false, false, false, false] (by kernel_rfl) rfl rfl ⟨(xC_ BK273.out 0).trans rfl, (xC_ BK273.out 1).trans rfl, (xC_ BK273.out 2).trans rfl, (xC_ BK273.out 3).trans rfl, (xC_ BK273.out 4).trans rfl⟩ (fun hHeld => ?_); refine with_tabW armadaref07_Text.tab3 armadaref07_Text.bits3 (fun HT_ HW_ => ?_)
             generalize w47.drew = w48 at BK273 HB hHeld ⊢
             refine pure_ (i := 0) (N := some 7) (v := ?_) (a' := ?_) #[true, false, false, false, false, false, false, false, false, false, false, false, false, false, false] rfl rfl (any_of HT_.out (by kernel_rfl)) (fun _ _ _ h => h) (Or.inl ⟨by rfl, ?_⟩) ?_ ?_
             rotate_left
             ·intro w'
              go_simp
              with_reducible rfl
             rotate_left
             ·simp only [Act.put, List.setIfInBounds_toArray, List.set_cons_zero, List.set_cons_succ, i64_w, i32_w]
              rfl
             refine pure_ (i := 5) (N := some 12) (v := ?_) (a' := ?_) #[true, false, false, false, false, true, false, false, false, false, false, false, false, false, false] rfl rfl (any_of HT_.out (by kernel_rfl)) (fun _ _ _ h => h) (Or.inl ⟨by rfl, ?_⟩) ?_ ?_
             rotate_left
             ·intro w'
              go_simp
              with_reducible rfl
             rotate_left
             ·simp only [Act.put, List.setIfInBounds_toArray, List.set_cons_zero, List.set_cons_succ, i64_w, i32_w]
              rfl
             refine pure_ (i := 10) (N := some 17) (v := ?_) (a' := ?_) #[true, false, false, false, false, true, false, false, false, false, true, false, false, false, false] rfl rfl (any_of HT_.out (by kernel_rfl)) (fun _ _ _ h => h) (Or.inl ⟨by rfl, ?_⟩) ?_ ?_
             rotate_left
             ·intro w'
              go_simp
              with_reducible rfl
             rotate_left
             ·simp only [Act.put, List.setIfInBounds_toArray, List.set_cons_zero, List.set_cons_succ, i64_w, i32_w]
              rfl
             refine take_ (i := 1) (N := some 8) (v := ?_) (a' := ?_) #[true, true, false, false, false, true, false, false, false, false, true, false, false, false, false] rfl rfl (take_ofW HT_.out HW_.out (by kernel_rfl)) (fun _ _ _ h => h) (Or.inl ⟨by rfl, ?_⟩) hHeld ?_ ?_
             rotate_left
             ·rintro w' ⟨s0, s1, s2, s3, s4⟩
              go_simp
              with_reducible rfl
             rotate_left
             ·simp only [Act.put, List.setIfInBounds_toArray, List.set_cons_zero, List.set_cons_succ, i64_w, i32_w]
              rfl
             refine take_ (i := 6) (N := some 13) (v := ?_) (a' := ?_) #[true, true, false, false, false, true, true, false, false, false, true, false, false, false, false] rfl rfl (take_ofW HT_.out HW_.out (by kernel_rfl)) (fun _ _ _ h => h) (Or.inl ⟨by rfl, ?_⟩) hHeld ?_ ?_
             rotate_left
             ·rintro w' ⟨s0, s1, s2, s3, s4⟩
              go_simp
              with_reducible rfl
             rotate_left
             ·simp only [Act.put, List.setIfInBounds_toArray, List.set_cons_zero, List.set_cons_succ, i64_w, i32_w]
              rfl
             refine take_ (i := 11) (N := some 18) (v := ?_) (a' := ?_) #[true, true, false, false, false, true, true, false, false, false, true, true, false, false, false] rfl rfl (take_ofW HT_.out HW_.out (by kernel_rfl)) (fun _ _ _ h => h) (Or.inl ⟨by rfl, ?_⟩) hHeld ?_ ?_
             rotate_left
             ·rintro w' ⟨s0, s1, s2, s3, s4⟩
              go_simp
              with_reducible rfl
             rotate_left
             ·simp only [Act.put, List.setIfInBounds_toArray, List.set_cons_zero, List.set_cons_succ, i64_w, i32_w]
              rfl
             refine one_ (i := 2) (N := some 9) #[true, true, true, false, false, true, true, false, false, false, true, true, false, false, false] rfl rfl (one_of HT_.out (by kernel_rfl)) (by decide) (fun K hK => ?_)
             refine goes_ Tryd.func37 (by kernel_rfl) rfl #[.int .i64 a0_0] (by rfl) rfl rfl (by (try simp only [List.map_toArray, List.map_cons, List.map_nil]); first | done | rfl) ?_
             with_reducible refine (armadaref07_Number.calls k a0_0 t275 _ A4.out).mono ?_
             rintro e w49 ⟨rfl, hb⟩
             refine ⟨_, rfl, ?_⟩
             have n0_ := Aside0.mk (blk_below (g := gb273) (o := .cells #[.int .i64 a0_0, .int .i64 a0_1, .int .i64 a0_2, .string a0_3, .string a0_4] 23 (0, 0)) (by (with_reducible repeat (first | apply xN_ | apply xD_ | apply xA_)); exact BK273.out) hb)
             have n1_ := Aside0.mk (below_step (by repeat (first | (with_reducible first | exact HB.out | apply yA_ | apply yN_ | apply yD_ | refine yS_ ?_ GE273.out) | exact HB.out)) hb)
             clear BK273
             clear HB
             have BK273 := n0_
             have HB := n1_
             clear n0_ n1_
             (try clear hb)
             (try clear hb2)
             (try clear hk)
             (try clear hi)
             refine hK.out _ _ ⟨(xC_ BK273.out 0).trans rfl, (xC_ BK273.out 1).trans rfl, (xC_ BK273.out 2).trans rfl, (xC_ BK273.out 3).trans rfl, (xC_ BK273.out 4).trans rfl⟩ (fun hHeld => ?_)
             clear hK K
             refine norm_ (a' := ?_) ?_ ?_
             rotate_left
             ·show Act.put _ (some 9) _ = _
              simp only [Act.put, List.setIfInBounds_toArray, List.set_cons_zero, List.set_cons_succ, i64_w, i32_w]
              rfl
             refine pure_ (i := 3) (N := some 10) (v := ?_) (a' := ?_) #[true, true, true, true, false, true, true, false, false, false, true, true, false, false, false] rfl rfl (any_of HT_.out (by kernel_rfl)) (fun _ _ _ h => h) (Or.inl ⟨by rfl, ?_⟩) ?_ ?_
             rotate_left
             ·intro w'
              go_simp
              with_reducible rfl
             rotate_left
             ·simp only [Act.put, List.setIfInBounds_toArray, List.set_cons_zero, List.set_cons_succ, i64_w, i32_w]
              rfl
             refine pure_ (i := 4) (N := some 11) (v := ?_) (a' := ?_) #[true, true, true, true, true, true, true, false, false, false, true, true, false, false, false] rfl rfl (any_of HT_.out (by kernel_rfl)) (fun _ _ _ h => h) (Or.inl ⟨by rfl, ?_⟩) ?_ ?_
             rotate_left
             ·intro w'
              go_simp
              with_reducible rfl
             rotate_left
             ·simp only [Act.put, List.setIfInBounds_toArray, List.set_cons_zero, List.set_cons_succ, i64_w, i32_w]
              rfl
             refine one_ (i := 7) (N := some 14) #[true, true, true, true, true, true, true, true, false, false, true, true, false, false, false] rfl rfl (one_of HT_.out (by kernel_rfl)) (by decide) (fun K hK => ?_)
             refine goes_ Tryd.func37 (by kernel_rfl) rfl #[.int .i64 a0_1] (by rfl) rfl rfl (by (try simp only [List.map_toArray, List.map_cons, List.map_nil]); first | done | rfl) ?_
             with_reducible refine (armadaref07_Number.calls k a0_1 t276 _ A7.out).mono ?_
             rintro e w50 ⟨rfl, hb⟩
             refine ⟨_, rfl, ?_⟩
             have n0_ := Aside0.mk (blk_below (g := gb273) (o := .cells #[.int .i64 a0_0, .int .i64 a0_1, .int .i64 a0_2, .string a0_3, .string a0_4] 23 (0, 0)) (by (with_reducible repeat (first | apply xN_ | apply xD_ | apply xA_)); exact BK273.out) hb)
             have n1_ := Aside0.mk (below_step (by repeat (first | (with_reducible first | exact HB.out | apply yA_ | apply yN_ | apply yD_ | refine yS_ ?_ GE273.out) | exact HB.out)) hb)
             clear BK273
             clear HB
             have BK273 := n0_
             have HB := n1_
             clear n0_ n1_
             (try clear hb)
             (try clear hb2)
             (try clear hk)
             (try clear hi)
             refine hK.out _ _ ⟨(xC_ BK273.out 0).trans rfl, (xC_ BK273.out 1).trans rfl, (xC_ BK273.out 2).trans rfl, (xC_ BK273.out 3).trans rfl, (xC_ BK273.out 4).trans rfl⟩ (fun hHeld => ?_)
             clear hK K
             refine norm_ (a' := ?_) ?_ ?_
             rotate_left
             ·show Act.put _ (some 14) _ = _
              simp only [Act.put, List.setIfInBounds_toArray, List.set_cons_zero, List.set_cons_succ, i64_w, i32_w]
              rfl
             refine pure_ (i := 8) (N := some 15) (v := ?_) (a' := ?_) #[true, true, true, true, true, true, true, true, true, false, true, true, false, false, false] rfl rfl (any_of HT_.out (by kernel_rfl)) (fun _ _ _ h => h) (Or.inl ⟨by rfl, ?_⟩) ?_ ?_
             rotate_left
             ·intro w'
              go_simp
              with_reducible rfl
             rotate_left
             ·simp only [Act.put, List.setIfInBounds_toArray, List.set_cons_zero, List.set_cons_succ, i64_w, i32_w]
              rfl
             refine pure_ (i := 9) (N := some 16) (v := ?_) (a' := ?_) #[true, true, true, true, true, true, true, true, true, true, true, true, false, false, false] rfl rfl (any_of HT_.out (by kernel_rfl)) (fun _ _ _ h => h) (Or.inl ⟨by rfl, ?_⟩) ?_ ?_
             rotate_left
             ·intro w'
              go_simp
              with_reducible rfl
             rotate_left
             ·simp only [Act.put, List.setIfInBounds_toArray, List.set_cons_zero, List.set_cons_succ, i64_w, i32_w]
              rfl
             refine one_ (i := 12) (N := some 19) #[true, true, true, true, true, true, true, true, true, true, true, true, true, false, false] rfl rfl (one_of HT_.out (by kernel_rfl)) (by decide) (fun K hK => ?_)
             refine goes_ Tryd.func37 (by kernel_rfl) rfl #[.int .i64 a0_2] (by rfl) rfl rfl (by (try simp only [List.map_toArray, List.map_cons, List.map_nil]); first | done | rfl) ?_
             with_reducible refine (armadaref07_Number.calls k a0_2 t277 _ A10.out).mono ?_
             rintro e w51 ⟨rfl, hb⟩
             refine ⟨_, rfl, ?_⟩
             have n0_ := Aside0.mk (blk_below (g := gb273) (o := .cells #[.int .i64 a0_0, .int .i64 a0_1, .int .i64 a0_2, .string a0_3, .string a0_4] 23 (0, 0)) (by (with_reducible repeat (first | apply xN_ | apply xD_ | apply xA_)); exact BK273.out) hb)
             have n1_ := Aside0.mk (below_step (by repeat (first | (with_reducible first | exact HB.out | apply yA_ | apply yN_ | apply yD_ | refine yS_ ?_ GE273.out) | exact HB.out)) hb)
             clear BK273
             clear HB
             have BK273 := n0_
             have HB := n1_
             clear n0_ n1_
             (try clear hb)
             (try clear hb2)
             (try clear hk)
             (try clear hi)
             refine hK.out _ _ ⟨(xC_ BK273.out 0).trans rfl, (xC_ BK273.out 1).trans rfl, (xC_ BK273.out 2).trans rfl, (xC_ BK273.out 3).trans rfl, (xC_ BK273.out 4).trans rfl⟩ (fun hHeld => ?_)
             clear hK K
             refine norm_ (a' := ?_) ?_ ?_
             rotate_left
             ·show Act.put _ (some 19) _ = _
              simp only [Act.put, List.setIfInBounds_toArray, List.set_cons_zero, List.set_cons_succ, i64_w, i32_w]
              rfl
             refine pure_ (i := 13) (N := some 20) (v := ?_) (a' := ?_) #[true, true, true, true, true, true, true, true, true, true, true, true, true, true, false] rfl rfl (any_of HT_.out (by kernel_rfl)) (fun _ _ _ h => h) (Or.inl ⟨by rfl, ?_⟩) ?_ ?_
             rotate_left
             ·intro w'
              go_simp
              with_reducible rfl
             rotate_left
             ·simp only [Act.put, List.setIfInBounds_toArray, List.set_cons_zero, List.set_cons_succ, i64_w, i32_w]
              rfl
             refine pure_ (i := 14) (N := some 3) (v := ?_) (a' := ?_) #[true, true, true, true, true, true, true, true, true, true, true, true, true, true, true] rfl rfl (any_of HT_.out (by kernel_rfl)) (fun _ _ _ h => h) (Or.inl ⟨by rfl, ?_⟩) ?_ ?_
             rotate_left
             ·intro w'
              go_simp
              with_reducible rfl
             rotate_left
             ·simp only [Act.put, List.setIfInBounds_toArray, List.set_cons_zero, List.set_cons_succ, i64_w, i32_w]
              rfl
             refine done_ (done_of HT_.out (by kernel_rfl)) ?_
             have hcz52_0 : w51.cell? ⟨gb273, 0, none⟩ = some (.int .i64 a0_0) := (xC_ BK273.out 0).trans rfl
             have hcz52_1 : w51.cell? ⟨gb273, 1, none⟩ = some (.int .i64 a0_1) := (xC_ BK273.out 1).trans rfl
             have hcz52_2 : w51.cell? ⟨gb273, 2, none⟩ = some (.int .i64 a0_2) := (xC_ BK273.out 2).trans rfl
             have hcz52_3 : w51.cell? ⟨gb273, 3, none⟩ = some (.string a0_3) := (xC_ BK273.out 3).trans rfl
             have hcz52_4 : w51.cell? ⟨gb273, 4, none⟩ = some (.string a0_4) := (xC_ BK273.out 4).trans rfl
             have hfz52_0 := xF_ BK273.out 0
             have hfz52_1 := xF_ BK273.out 1
             have hfz52_2 := xF_ BK273.out 2
             have hfz52_3 := xF_ BK273.out 3
             have hfz52_4 := xF_ BK273.out 4
             try go_wp2
             go_ret
             exact ⟨by first | rfl | (simp [errW_none, errW_some] <;> rfl) | (simp [*, errW_none, errW_some] <;> rfl), by repeat (first | (with_reducible first | exact HB.out | apply yA_ | apply yN_ | apply yD_ | refine yS_ ?_ GE273.out) | exact HB.out)⟩
            ·rw [if_neg c44] at H
             exact absurd H (by simp)
           ·rw [if_neg c43] at H
            exact absurd H (by simp)
         ·rw [if_neg c33] at H
          exact absurd H (by simp)
        ·rw [if_neg c32] at H
         exact absurd H (by simp)
      ·rw [if_neg c11] at H
       exact absurd H (by simp)
     ·rw [if_neg c9] at H
      exact absurd H (by simp)
    ·rw [if_neg c8] at H
     exact absurd H (by simp)
   ·rw [if_neg c6] at H
    exact absurd H (by simp)
  ·rw [if_neg c5] at H
   exact absurd H (by simp)
 ·replace c3 := Bool.eq_false_iff.mpr c3
  subst c3
  have H1 : (some (⟨#[]⟩ : ByteArray)) = some r := by rw [if_neg (show ¬ (false = true) by decide)] at H; exact H
  clear H
  have H := H1
  clear H1
  obtain rfl := Option.some.inj H
  go_enter Tryd.func16, Tryd.ntmps16
  go_wp2_with (first | ((with_reducible refine gate_dst (N := 1) rfl ?_); refine box_event ?hg (N := 1) ?hd (cs := #[.int .i64 a0_0, .int .i64 a0_1, .int .i64 a0_2, .string a0_3, .string a0_4]) (t := 23) ?hr ?_; (case hd => rfl); (case hg => rfl); (case hr => first | (go_simp; done) | (go_simp; rfl)); intro gb273 hg w53 hbox hb; have n0_ := Aside0.mk (below_step (by repeat (first | (with_reducible first | exact HB.out | apply yA_ | apply yN_ | apply yD_) | exact HB.out)) hb); have n1_ := Aside0.mk (hbox); have n2_ := Aside0.mk ((by rw [hg]; exact (below_size (by repeat (first | (with_reducible first | exact HB.out | apply yA_ | apply yN_ | apply yD_) | exact HB.out))) : w.heap.size ≤ gb273)); have n3_ := Aside0.mk ((by rw [hg]; exact (below_size (by repeat (first | (with_reducible first | exact HB.out | apply yA_ | apply yN_ | apply yD_) | exact HB.out))) : w.heap.size ≤ gb273)); clear HB; have HB := n0_; have BK273 := n1_; have GW273 := n2_; have GE273 := n3_; clear n0_ n1_ n2_ n3_; clear hb hbox hg; have hcz54_0 : w53.cell? ⟨gb273, 0, none⟩ = some (.int .i64 a0_0) := (xC_ BK273.out 0).trans rfl; have hcz54_1 : w53.cell? ⟨gb273, 1, none⟩ = some (.int .i64 a0_1) := (xC_ BK273.out 1).trans rfl; have hcz54_2 : w53.cell? ⟨gb273, 2, none⟩ = some (.int .i64 a0_2) := (xC_ BK273.out 2).trans rfl; have hcz54_3 : w53.cell? ⟨gb273, 3, none⟩ = some (.string a0_3) := (xC_ BK273.out 3).trans rfl; have hcz54_4 : w53.cell? ⟨gb273, 4, none⟩ = some (.string a0_4) := (xC_ BK273.out 4).trans rfl; have hfz54_0 := xF_ BK273.out 0; have hfz54_1 := xF_ BK273.out 1; have hfz54_2 := xF_ BK273.out 2; have hfz54_3 := xF_ BK273.out 3; have hfz54_4 := xF_ BK273.out 4) | ((with_reducible refine gate_callee (f := 14) rfl ?_); refine goesL_ (some 5) rfl rfl Tryd.func14 (by kernel_rfl) rfl #[.agg #[.int .i64 a0_0, .int .i64 a0_1, .int .i64 a0_2, .string a0_3, .string a0_4]] rfl (by (try simp only [List.map_toArray, List.map_cons, List.map_nil]); first | done | rfl) ?_; (with_reducible refine (armadaref07_Check.calls k a0_0 a0_1 a0_2 a0_3 a0_4 false _ A2.out).mono ?_); rintro e w55 ⟨rfl, hb⟩; refine ⟨_, rfl, ?_⟩; have n0_ := Aside0.mk (blk_below (g := gb273) (o := .cells #[.int .i64 a0_0, .int .i64 a0_1, .int .i64 a0_2, .string a0_3, .string a0_4] 23 (0, 0)) (by (with_reducible repeat (first | apply xN_ | apply xD_ | apply xA_)); exact BK273.out) hb); have n1_ := Aside0.mk (below_step (by repeat (first | (with_reducible first | exact HB.out | apply yA_ | apply yN_ | apply yD_ | refine yS_ ?_ GE273.out) | exact HB.out)) hb); clear BK273; clear HB; have BK273 := n0_; have HB := n1_; clear n0_ n1_; (try clear hb); (try clear hb2); (try clear hk); (try clear hi)))
  go_ret
  exact ⟨by first | rfl | (simp [errW_none, errW_some] <;> rfl) | (simp [*, errW_none, errW_some] <;> rfl), by repeat (first | (with_reducible first | exact HB.out | apply yA_ | apply yN_ | apply yD_ | refine yS_ ?_ GE273.out) | exact HB.out)⟩
def armadaref07_find.l0 : Nat → ByteArray → Int → Int → Option (Int)
 | 0, _, _, _ => none
 | k + 1, x0, x1, x5 => if x5 < (x0.size : Int) then (if 0 ≤ x5 then (if (bt x0 x5) = x1 then (some x5) else (armadaref07_find.l0 k x0 x1 (wrap64 (x5 + 1)))) else (none)) else (some (-1))
def armadaref07_find.f (k : Nat) (a0 : ByteArray) (a1 : Int) : Option (Int) := armadaref07_find.l0 k a0 a1 0
theorem armadaref07_find.mono_l : ∀ k, (∀ y0 y1 y2, LeO (armadaref07_find.l0 k y0 y1 y2) (armadaref07_find.l0 (k + 1) y0 y1 y2))
 | 0 => fun _ _ _ r h => by simp [armadaref07_find.l0] at h
 | k + 1 => by
  have ih0 := armadaref07_find.mono_l k
  ·intro y0 y1 y2
   unfold armadaref07_find.l0
   repeat' first
   | (with_reducible exact ih0 _ _ _)
   | (with_reducible exact LeO.refl _)
   | (with_reducible exact LeO.none _)
   | (with_reducible refine LeO.ite ?_ ?_)
   | (with_reducible refine LeO.bind ?_ (fun _ => ?_))
   | exact ih0 _ _ _
   | exact LeO.none _
   | refine LeO.ite ?_ ?_
   | refine LeO.bind ?_ (fun _ => ?_)
theorem armadaref07_find.mono : ∀ a0 a1 k, LeO (armadaref07_find.f k a0 a1) (armadaref07_find.f (k + 1) a0 a1) := by
 intro a0 a1 k
 have ih0 := armadaref07_find.mono_l k
 unfold armadaref07_find.f
 repeat' first
   | (with_reducible exact ih0 _ _ _)
   | (with_reducible exact LeO.refl _)
   | (with_reducible exact LeO.none _)
   | (with_reducible refine LeO.ite ?_ ?_)
   | (with_reducible refine LeO.bind ?_ (fun _ => ?_))
   | exact ih0 _ _ _
   | exact LeO.none _
   | refine LeO.ite ?_ ?_
   | refine LeO.bind ?_ (fun _ => ?_)
set_option maxHeartbeats 8000000 in
set_option maxRecDepth 100000 in
theorem armadaref07_find.calls (k : Nat) (a0 : ByteArray) (a1 : Int) (r : Int) (w : World) (h : armadaref07_find.f k a0 a1 = some r) :
  Calls Tryd.prog 27 #[.string a0, .int .u8 a1] w fun e w' => e = .returned (.int .i64 r) ∧ Drawn0 w w' := by
 have H : (armadaref07_find.l0 k a0 a1 0) = some r := h
 clear h
 have H' := Aside0.mk H
 clear H
 go_enter Tryd.func27, Tryd.ntmps27
 go_wp2
 go_loopg [5] k (fun kq v5 w' => ∃ (x5_1 : Int), v5 = .int .i64 x5_1 ∧ Aside0 (armadaref07_find.l0 kq a0 a1 x5_1 = some r) ∧ Aside0 (kq ≤ k) ∧ Drawn0 w w')
 case atStart => exact ⟨(0), (by first | rfl | (simp; done) | (simp [*]; done)), H', ⟨Nat.le_refl _⟩, by repeat (first | exact Drawn0.refl _ | apply Drawn0.step)⟩
 case round =>
  clear H'
  (try clear c2); (try clear p2)
  obtain ⟨x5_1, rfl, HA, HK1, ⟨m1, rfl⟩⟩ := hrel
  cases gk with
  | zero => exact absurd HA.out (by simp [armadaref07_find.l0])
  | succ k1 =>
   have H := HA.out
   clear HA
   simp only [armadaref07_find.l0] at H
   by_cases c3 : x5_1 < (a0.size : Int)
   ·rw [if_pos c3] at H
    have c3b0 : decide (x5_1 < (a0.size : Int)) = true := decide_eq_true c3
    clear c3
    by_cases c4 : 0 ≤ x5_1
    ·rw [if_pos c4] at H
     have c4b0 : decide (0 ≤ x5_1) = true := decide_eq_true c4
     clear c4
     by_cases c6 : (bt a0 x5_1) = a1
     ·rw [if_pos c6] at H
      have c6b0 : ((bt a0 x5_1) == a1) = true := beq_iff_eq.mpr c6
      have c6b1 : ((bt a0 x5_1) != a1) = false := bne_eq_false_iff_eq.mpr c6
      clear c6
      obtain rfl := Option.some.inj H
      have p5 : 0 ≤ (x5_1 : Int) := of_decide_eq_true (by first | (with_reducible assumption) | assumption)
      have q5 : x5_1 < (a0.size : Int) := of_decide_eq_true (by first | (with_reducible assumption) | assumption)
      have hx5 := bt_at a0 x5_1
      replace p5 := eq_true p5
      replace q5 := eq_true q5
      go_wp2
      go_ret
      exact ⟨by first | rfl | (simp; done) | (simp [*]; done), by repeat (first | exact Drawn0.refl _ | apply Drawn0.step)⟩
     ·rw [if_neg c6] at H
      have c6b0 : ((bt a0 x5_1) == a1) = false := beq_eq_false_iff_ne.mpr c6
      have c6b1 : ((bt a0 x5_1) != a1) = true := bne_iff_ne.mpr c6
      have H' := Aside0.mk H
      clear H
      have p5 : 0 ≤ (x5_1 : Int) := of_decide_eq_true (by first | (with_reducible assumption) | assumption)
      have q5 : x5_1 < (a0.size : Int) := of_decide_eq_true (by first | (with_reducible assumption) | assumption)
      have hx5 := bt_at a0 x5_1
      replace p5 := eq_true p5
      replace q5 := eq_true q5
      go_wp2
      go_roundg k1
      case measure => have := HK1.out; omega
      case rel => exact ⟨(wrap64 (x5_1 + 1)), (by first | rfl | (simp; done) | (simp [*]; done)), H', ⟨by have := HK1.out; omega⟩, by repeat (first | exact Drawn0.refl _ | apply Drawn0.step)⟩
    ·rw [if_neg c4] at H
     exact absurd H (by simp)
   ·rw [if_neg c3] at H
    have c3b0 : decide (x5_1 < (a0.size : Int)) = false := decide_eq_false c3
    clear c3
    obtain rfl := Option.some.inj H
    go_wp2
    go_ret
    exact ⟨by first | rfl | (simp; done) | (simp [*]; done), by repeat (first | exact Drawn0.refl _ | apply Drawn0.step)⟩
mutual
def armadaref07_read.j0 : Nat → ByteArray → Int → Bool → Option (Int)
 | 0, _, _, _ => none
 | k + 1, x0, x3, x12 => if x12 = true then (some (-1)) else (armadaref07_read.l0 k x0 x3 0)
def armadaref07_read.l0 : Nat → ByteArray → Int → Int → Option (Int)
 | 0, _, _, _ => none
 | k + 1, x0, x3, x4 => if x4 < (x0.size : Int) then (if 0 ≤ x4 then (armadaref07_read.l0 k x0 (wrap64 ((wrap64 ((wrap64 (10 * x3)) + (wrap64 (bt x0 x4)))) - 48)) (wrap64 (x4 + 1))) else (none)) else (some x3)
end
def armadaref07_read.f (k : Nat) (a0 : ByteArray) : Option (Int) := (armadaref07_digits.f k a0).bind fun t278 => (if t278 = true then (armadaref07_read.j0 k a0 0 (decide ((a0.size : Int) > 9))) else (armadaref07_read.j0 k a0 0 true))
theorem armadaref07_read.mono_l : ∀ k, (∀ y0 y1 y2, LeO (armadaref07_read.j0 k y0 y1 y2) (armadaref07_read.j0 (k + 1) y0 y1 y2)) ∧ (∀ y0 y1 y2, LeO (armadaref07_read.l0 k y0 y1 y2) (armadaref07_read.l0 (k + 1) y0 y1 y2))
 | 0 => ⟨fun _ _ _ r h => by simp [armadaref07_read.j0] at h, fun _ _ _ r h => by simp [armadaref07_read.l0] at h⟩
 | k + 1 => by
  obtain ⟨ih0, ih1⟩ := armadaref07_read.mono_l k
  refine ⟨?_, ?_⟩
  ·intro y0 y1 y2
   unfold armadaref07_read.j0
   repeat' first
   | (with_reducible exact ih0 _ _ _)
   | (with_reducible exact ih1 _ _ _)
   | (with_reducible exact armadaref07_digits.mono _ _)
   | (with_reducible exact LeO.refl _)
   | (with_reducible exact LeO.none _)
   | (with_reducible refine LeO.ite ?_ ?_)
   | (with_reducible refine LeO.bind ?_ (fun _ => ?_))
   | exact ih0 _ _ _
   | exact ih1 _ _ _
   | exact armadaref07_digits.mono _ _
   | exact LeO.none _
   | refine LeO.ite ?_ ?_
   | refine LeO.bind ?_ (fun _ => ?_)
  ·intro y0 y1 y2
   unfold armadaref07_read.l0
   repeat' first
   | (with_reducible exact ih0 _ _ _)
   | (with_reducible exact ih1 _ _ _)
   | (with_reducible exact armadaref07_digits.mono _ _)
   | (with_reducible exact LeO.refl _)
   | (with_reducible exact LeO.none _)
   | (with_reducible refine LeO.ite ?_ ?_)
   | (with_reducible refine LeO.bind ?_ (fun _ => ?_))
   | exact ih0 _ _ _
   | exact ih1 _ _ _
   | exact armadaref07_digits.mono _ _
   | exact LeO.none _
   | refine LeO.ite ?_ ?_
   | refine LeO.bind ?_ (fun _ => ?_)
theorem armadaref07_read.mono : ∀ a0 k, LeO (armadaref07_read.f k a0) (armadaref07_read.f (k + 1) a0) := by
 intro a0 k
 obtain ⟨ih0, ih1⟩ := armadaref07_read.mono_l k
 unfold armadaref07_read.f
 repeat' first
   | (with_reducible exact ih0 _ _ _)
   | (with_reducible exact ih1 _ _ _)
   | (with_reducible exact armadaref07_digits.mono _ _)
   | (with_reducible exact LeO.refl _)
   | (with_reducible exact LeO.none _)
   | (with_reducible refine LeO.ite ?_ ?_)
   | (with_reducible refine LeO.bind ?_ (fun _ => ?_))
   | exact ih0 _ _ _
   | exact ih1 _ _ _
   | exact armadaref07_digits.mono _ _
   | exact LeO.none _
   | refine LeO.ite ?_ ?_
   | refine LeO.bind ?_ (fun _ => ?_)
set_option maxHeartbeats 8000000 in
set_option maxRecDepth 100000 in
theorem armadaref07_read.calls (k : Nat) (a0 : ByteArray) (r : Int) (w : World) (h : armadaref07_read.f k a0 = some r) :
  Calls Tryd.prog 29 #[.string a0] w fun e w' => e = .returned (.int .i64 r) ∧ Drawn0 w w' := by
 have H : ((armadaref07_digits.f k a0).bind fun t278 => (if t278 = true then (armadaref07_read.j0 k a0 0 (decide ((a0.size : Int) > 9))) else (armadaref07_read.j0 k a0 0 true))) = some r := h
 clear h
 have HC2 := Aside0.mk H
 clear H
 go_enter Tryd.func29, Tryd.ntmps29
 go_upto_region 2 with (fail)
 go_cut [12] (fun v12 wc => ∃ (kq : Nat) (x12_1 : Bool), v12 = .bool x12_1 ∧ Aside0 (armadaref07_read.j0 kq a0 0 x12_1 = some r) ∧ Aside0 (kq ≤ k) ∧ Drawn0 w wc)
 case first =>
  have H := HC2.out
  clear HC2
  replace H := Option.bind_eq_some_iff.mp H
  obtain ⟨t278, A30, H⟩ := H
  replace H : (if t278 = true then (armadaref07_read.j0 k a0 0 (decide ((a0.size : Int) > 9))) else (armadaref07_read.j0 k a0 0 true)) = some r := H
  have A3 := Aside0.mk A30
  clear A30
  by_cases c4 : t278 = true
  ·subst c4
   have H1 : (armadaref07_read.j0 k a0 0 (decide ((a0.size : Int) > 9))) = some r := by rw [if_pos rfl] at H; exact H
   clear H
   have H := H1
   clear H1
   have H' := Aside0.mk H
   clear H
   go_wp2_with (first | ((with_reducible refine gate_callee (f := 48) rfl ?_); refine goesL_ (some 6) rfl rfl Tryd.func48 (by kernel_rfl) rfl #[.string a0] rfl (by (try simp only [List.map_toArray, List.map_cons, List.map_nil]); first | done | rfl) ?_; (with_reducible refine (armadaref07_digits.calls k a0 true _ A3.out).mono ?_); rintro e w' ⟨rfl, ⟨nd, rfl⟩⟩; refine ⟨_, rfl, ?_⟩) | (go_at_call 48; (with_reducible refine (armadaref07_digits.calls k a0 true _ A3.out).mono ?_); rintro e w' ⟨rfl, ⟨nd, rfl⟩⟩))
   go_meet
   case rel => exact ⟨_, (decide ((a0.size : Int) > 9)), (by first | rfl | (simp; done) | (simp [*]; done)), H', ⟨by first | omega | exact Nat.le_refl _⟩, by repeat (first | exact Drawn0.refl _ | apply Drawn0.step)⟩
  ·replace c4 := Bool.eq_false_iff.mpr c4
   subst c4
   have H1 : (armadaref07_read.j0 k a0 0 true) = some r := by rw [if_neg (show ¬ (false = true) by decide)] at H; exact H
   clear H
   have H := H1
   clear H1
   have H' := Aside0.mk H
   clear H
   go_wp2_with (first | ((with_reducible refine gate_callee (f := 48) rfl ?_); refine goesL_ (some 6) rfl rfl Tryd.func48 (by kernel_rfl) rfl #[.string a0] rfl (by (try simp only [List.map_toArray, List.map_cons, List.map_nil]); first | done | rfl) ?_; (with_reducible refine (armadaref07_digits.calls k a0 false _ A3.out).mono ?_); rintro e w' ⟨rfl, ⟨nd, rfl⟩⟩; refine ⟨_, rfl, ?_⟩) | (go_at_call 48; (with_reducible refine (armadaref07_digits.calls k a0 false _ A3.out).mono ?_); rintro e w' ⟨rfl, ⟨nd, rfl⟩⟩))
   go_meet
   case rel => exact ⟨_, (true), (by first | rfl | (simp; done) | (simp [*]; done)), H', ⟨by first | omega | exact Nat.le_refl _⟩, by repeat (first | exact Drawn0.refl _ | apply Drawn0.step)⟩
 case rest =>
  clear HC2
  (try clear c2); (try clear p2); (try clear c4)
  obtain ⟨kq, x12_1, rfl, HA, HJ1, ⟨mc1, rfl⟩⟩ := hcut
  cases kq with
  | zero => exact absurd HA.out (by simp [armadaref07_read.j0])
  | succ kj1 =>
   have H := HA.out
   clear HA
   simp only [armadaref07_read.j0] at H
   by_cases c5 : x12_1 = true
   ·subst c5
    have H1 : (some (-1)) = some r := by rw [if_pos rfl] at H; exact H
    clear H
    have H := H1
    clear H1
    obtain rfl := Option.some.inj H
    go_wp2
    go_ret
    exact ⟨by first | rfl | (simp; done) | (simp [*]; done), by repeat (first | exact Drawn0.refl _ | apply Drawn0.step)⟩
   ·replace c5 := Bool.eq_false_iff.mpr c5
    subst c5
    have H1 : (armadaref07_read.l0 kj1 a0 0 0) = some r := by rw [if_neg (show ¬ (false = true) by decide)] at H; exact H
    clear H
    have H := H1
    clear H1
    have H' := Aside0.mk H
    clear H
    go_wp2
    go_loopg [3, 4] kj1 (fun kq v3 v4 w' => ∃ (x3_2 : Int) (x4_2 : Int), v3 = .int .i64 x3_2 ∧ v4 = .int .i64 x4_2 ∧ Aside0 (armadaref07_read.l0 kq a0 x3_2 x4_2 = some r) ∧ Aside0 (kq ≤ kj1) ∧ Drawn0 w w')
    case atStart => exact ⟨(0), (0), (by first | rfl | (simp; done) | (simp [*]; done)), (by first | rfl | (simp; done) | (simp [*]; done)), H', ⟨Nat.le_refl _⟩, by repeat (first | exact Drawn0.refl _ | apply Drawn0.step)⟩
    case round =>
     clear H'
     (try clear c1); (try clear c2); (try clear p2); (try clear c4); (try clear c5); (try clear p2)
     obtain ⟨x3_2, x4_2, rfl, rfl, HA, HK2, ⟨m2, rfl⟩⟩ := hrel
     cases gk with
     | zero => exact absurd HA.out (by simp [armadaref07_read.l0])
     | succ k2 =>
      have H := HA.out
      clear HA
      simp only [armadaref07_read.l0] at H
      by_cases c6 : x4_2 < (a0.size : Int)
      ·rw [if_pos c6] at H
       have c6b0 : decide (x4_2 < (a0.size : Int)) = true := decide_eq_true c6
       clear c6
       by_cases c7 : 0 ≤ x4_2
       ·rw [if_pos c7] at H
        have c7b0 : decide (0 ≤ x4_2) = true := decide_eq_true c7
        clear c7
        have H' := Aside0.mk H
        clear H
        have p8 : 0 ≤ (x4_2 : Int) := of_decide_eq_true (by first | (with_reducible assumption) | assumption)
        have q8 : x4_2 < (a0.size : Int) := of_decide_eq_true (by first | (with_reducible assumption) | assumption)
        have hx8 := bt_at a0 x4_2
        replace p8 := eq_true p8
        replace q8 := eq_true q8
        go_wp2
        go_roundg k2
        case measure => have := HJ1.out; have := HK2.out; omega
        case rel => exact ⟨(wrap64 ((wrap64 ((wrap64 (10 * x3_2)) + (wrap64 (bt a0 x4_2)))) - 48)), (wrap64 (x4_2 + 1)), (by first | rfl | (simp; done) | (simp [*]; done)), (by first | rfl | (simp; done) | (simp [*]; done)), H', ⟨by have := HJ1.out; have := HK2.out; omega⟩, by repeat (first | exact Drawn0.refl _ | apply Drawn0.step)⟩
       ·rw [if_neg c7] at H
        exact absurd H (by simp)
      ·rw [if_neg c6] at H
       have c6b0 : decide (x4_2 < (a0.size : Int)) = false := decide_eq_false c6
       clear c6
       obtain rfl := Option.some.inj H
       go_wp2
       go_ret
       exact ⟨by first | rfl | (simp; done) | (simp [*]; done), by repeat (first | exact Drawn0.refl _ | apply Drawn0.step)⟩
mutual
def armadaref07_Parse.j0 : Nat → ByteArray → ByteArray → Bool → Int → Int → Int → ByteArray → ByteArray → Option (Int × Int × Int × ByteArray × ByteArray × Bool)
 | 0, _, _, _, _, _, _, _, _ => none
 | k + 1, x0, x5, x22, x281000, x281001, x281002, x281003, x281004 => if x22 = true then (some (0, 0, 0, (⟨#[]⟩ : ByteArray), (⟨#[]⟩ : ByteArray), false)) else (if 1 ≤ (x5.size : Int) then ((armadaref07_find.f k (x5.extract 1 x5.size) 43).bind fun t281 => (if t281 ≥ 0 then (if 0 ≤ (wrap64 (t281 + 1)) then (if (wrap64 (t281 + 1)) ≤ ((x5.extract 1 x5.size).size : Int) then (if 0 ≤ t281 then (if t281 ≤ ((x5.extract 1 x5.size).size : Int) then (armadaref07_Parse.j1 k x0 ((x5.extract 1 x5.size).extract 0 (t281 : Int).toNat) x281000 x281001 x281002 x281003 ((x5.extract 1 x5.size).extract ((wrap64 (t281 + 1)) : Int).toNat (x5.extract 1 x5.size).size)) else (none)) else (none)) else (none)) else (none)) else (armadaref07_Parse.j1 k x0 (x5.extract 1 x5.size) x281000 x281001 x281002 x281003 x281004))) else (none))
def armadaref07_Parse.j1 : Nat → ByteArray → ByteArray → Int → Int → Int → ByteArray → ByteArray → Option (Int × Int × Int × ByteArray × ByteArray × Bool)
 | 0, _, _, _, _, _, _, _ => none
 | k + 1, x0, x5, x281000, x281001, x281002, x281003, x281004 => (armadaref07_find.f k x5 45).bind fun t282 => (if t282 ≥ 0 then (if 0 ≤ (wrap64 (t282 + 1)) then (if (wrap64 (t282 + 1)) ≤ (x5.size : Int) then (if 0 ≤ t282 then (if t282 ≤ (x5.size : Int) then (armadaref07_Parse.j2 k x0 (x5.extract 0 (t282 : Int).toNat) x281000 x281001 x281002 (x5.extract ((wrap64 (t282 + 1)) : Int).toNat x5.size) x281004) else (none)) else (none)) else (none)) else (none)) else (armadaref07_Parse.j2 k x0 x5 x281000 x281001 x281002 x281003 x281004))
def armadaref07_Parse.j2 : Nat → ByteArray → ByteArray → Int → Int → Int → ByteArray → ByteArray → Option (Int × Int × Int × ByteArray × ByteArray × Bool)
 | 0, _, _, _, _, _, _, _ => none
 | k + 1, x0, x5, x281000, x281001, x281002, x281003, x281004 => (armadaref05_Split.f k x5 46).bind fun t283 => (if (t283.length : Int) = 3 then (if 0 < (t283.length : Int) then ((armadaref07_read.f k (rdOf ByteArray.empty t283 0)).bind fun t287 => (if 1 < (t283.length : Int) then ((armadaref07_read.f k (rdOf ByteArray.empty t283 1)).bind fun t289 => (if 2 < (t283.length : Int) then ((armadaref07_read.f k (rdOf ByteArray.empty t283 2)).bind fun t291 => ((armadaref07_Text.f k t287 t289 t291 x281003 x281004).bind fun t292 => (if t292.toList = x0.toList then (some (t287, t289, t291, x281003, x281004, true)) else (some (0, 0, 0, (⟨#[]⟩ : ByteArray), (⟨#[]⟩ : ByteArray), false))))) else (none))) else (none))) else (none)) else (some (0, 0, 0, (⟨#[]⟩ : ByteArray), (⟨#[]⟩ : ByteArray), false)))
end
def armadaref07_Parse.f (k : Nat) (a0 : ByteArray) : Option (Int × Int × Int × ByteArray × ByteArray × Bool) := if (a0.size : Int) > 100 then (armadaref07_Parse.j0 k a0 a0 true 0 0 0 (⟨#[]⟩ : ByteArray) (⟨#[]⟩ : ByteArray)) else (if (a0.size : Int) = 0 then (armadaref07_Parse.j0 k a0 a0 true 0 0 0 (⟨#[]⟩ : ByteArray) (⟨#[]⟩ : ByteArray)) else (if 0 < (a0.size : Int) then (armadaref07_Parse.j0 k a0 a0 ((bt a0 0) != 118) 0 0 0 (⟨#[]⟩ : ByteArray) (⟨#[]⟩ : ByteArray)) else (none)))
theorem armadaref07_Parse.mono_l : ∀ k, (∀ y0 y1 y2 y3 y4 y5 y6 y7, LeO (armadaref07_Parse.j0 k y0 y1 y2 y3 y4 y5 y6 y7) (armadaref07_Parse.j0 (k + 1) y0 y1 y2 y3 y4 y5 y6 y7)) ∧ (∀ y0 y1 y2 y3 y4 y5 y6, LeO (armadaref07_Parse.j1 k y0 y1 y2 y3 y4 y5 y6) (armadaref07_Parse.j1 (k + 1) y0 y1 y2 y3 y4 y5 y6)) ∧ (∀ y0 y1 y2 y3 y4 y5 y6, LeO (armadaref07_Parse.j2 k y0 y1 y2 y3 y4 y5 y6) (armadaref07_Parse.j2 (k + 1) y0 y1 y2 y3 y4 y5 y6))
 | 0 => ⟨fun _ _ _ _ _ _ _ _ r h => by simp [armadaref07_Parse.j0] at h, fun _ _ _ _ _ _ _ r h => by simp [armadaref07_Parse.j1] at h, fun _ _ _ _ _ _ _ r h => by simp [armadaref07_Parse.j2] at h⟩
 | k + 1 => by
  obtain ⟨ih0, ih1, ih2⟩ := armadaref07_Parse.mono_l k
  refine ⟨?_, ?_, ?_⟩
  ·intro y0 y1 y2 y3 y4 y5 y6 y7
   unfold armadaref07_Parse.j0
   repeat' first
   | (with_reducible exact ih0 _ _ _ _ _ _ _ _)
   | (with_reducible exact ih1 _ _ _ _ _ _ _)
   | (with_reducible exact ih2 _ _ _ _ _ _ _)
   | (with_reducible exact armadaref05_Split.mono _ _ _)
   | (with_reducible exact armadaref07_Text.mono _ _ _ _ _ _)
   | (with_reducible exact armadaref07_find.mono _ _ _)
   | (with_reducible exact armadaref07_read.mono _ _)
   | (with_reducible exact LeO.refl _)
   | (with_reducible exact LeO.none _)
   | (with_reducible refine LeO.ite ?_ ?_)
   | (with_reducible refine LeO.bind ?_ (fun _ => ?_))
   | exact ih0 _ _ _ _ _ _ _ _
   | exact ih1 _ _ _ _ _ _ _
   | exact ih2 _ _ _ _ _ _ _
   | exact armadaref05_Split.mono _ _ _
   | exact armadaref07_Text.mono _ _ _ _ _ _
   | exact armadaref07_find.mono _ _ _
   | exact armadaref07_read.mono _ _
   | exact LeO.none _
   | refine LeO.ite ?_ ?_
   | refine LeO.bind ?_ (fun _ => ?_)
  ·intro y0 y1 y2 y3 y4 y5 y6
   unfold armadaref07_Parse.j1
   repeat' first
   | (with_reducible exact ih0 _ _ _ _ _ _ _ _)
   | (with_reducible exact ih1 _ _ _ _ _ _ _)
   | (with_reducible exact ih2 _ _ _ _ _ _ _)
   | (with_reducible exact armadaref05_Split.mono _ _ _)
   | (with_reducible exact armadaref07_Text.mono _ _ _ _ _ _)
   | (with_reducible exact armadaref07_find.mono _ _ _)
   | (with_reducible exact armadaref07_read.mono _ _)
   | (with_reducible exact LeO.refl _)
   | (with_reducible exact LeO.none _)
   | (with_reducible refine LeO.ite ?_ ?_)
   | (with_reducible refine LeO.bind ?_ (fun _ => ?_))
   | exact ih0 _ _ _ _ _ _ _ _
   | exact ih1 _ _ _ _ _ _ _
   | exact ih2 _ _ _ _ _ _ _
   | exact armadaref05_Split.mono _ _ _
   | exact armadaref07_Text.mono _ _ _ _ _ _
   | exact armadaref07_find.mono _ _ _
   | exact armadaref07_read.mono _ _
   | exact LeO.none _
   | refine LeO.ite ?_ ?_
   | refine LeO.bind ?_ (fun _ => ?_)
  ·intro y0 y1 y2 y3 y4 y5 y6
   unfold armadaref07_Parse.j2
   repeat' first
   | (with_reducible exact ih0 _ _ _ _ _ _ _ _)
   | (with_reducible exact ih1 _ _ _ _ _ _ _)
   | (with_reducible exact ih2 _ _ _ _ _ _ _)
   | (with_reducible exact armadaref05_Split.mono _ _ _)
   | (with_reducible exact armadaref07_Text.mono _ _ _ _ _ _)
   | (with_reducible exact armadaref07_find.mono _ _ _)
   | (with_reducible exact armadaref07_read.mono _ _)
   | (with_reducible exact LeO.refl _)
   | (with_reducible exact LeO.none _)
   | (with_reducible refine LeO.ite ?_ ?_)
   | (with_reducible refine LeO.bind ?_ (fun _ => ?_))
   | exact ih0 _ _ _ _ _ _ _ _
   | exact ih1 _ _ _ _ _ _ _
   | exact ih2 _ _ _ _ _ _ _
   | exact armadaref05_Split.mono _ _ _
   | exact armadaref07_Text.mono _ _ _ _ _ _
   | exact armadaref07_find.mono _ _ _
   | exact armadaref07_read.mono _ _
   | exact LeO.none _
   | refine LeO.ite ?_ ?_
   | refine LeO.bind ?_ (fun _ => ?_)
theorem armadaref07_Parse.mono : ∀ a0 k, LeO (armadaref07_Parse.f k a0) (armadaref07_Parse.f (k + 1) a0) := by
 intro a0 k
 obtain ⟨ih0, ih1, ih2⟩ := armadaref07_Parse.mono_l k
 unfold armadaref07_Parse.f
 repeat' first
   | (with_reducible exact ih0 _ _ _ _ _ _ _ _)
   | (with_reducible exact ih1 _ _ _ _ _ _ _)
   | (with_reducible exact ih2 _ _ _ _ _ _ _)
   | (with_reducible exact armadaref05_Split.mono _ _ _)
   | (with_reducible exact armadaref07_Text.mono _ _ _ _ _ _)
   | (with_reducible exact armadaref07_find.mono _ _ _)
   | (with_reducible exact armadaref07_read.mono _ _)
   | (with_reducible exact LeO.refl _)
   | (with_reducible exact LeO.none _)
   | (with_reducible refine LeO.ite ?_ ?_)
   | (with_reducible refine LeO.bind ?_ (fun _ => ?_))
   | exact ih0 _ _ _ _ _ _ _ _
   | exact ih1 _ _ _ _ _ _ _
   | exact ih2 _ _ _ _ _ _ _
   | exact armadaref05_Split.mono _ _ _
   | exact armadaref07_Text.mono _ _ _ _ _ _
   | exact armadaref07_find.mono _ _ _
   | exact armadaref07_read.mono _ _
   | exact LeO.none _
   | refine LeO.ite ?_ ?_
   | refine LeO.bind ?_ (fun _ => ?_)
set_option maxHeartbeats 8000000 in
set_option maxRecDepth 100000 in
theorem armadaref07_Parse.calls (k : Nat) (a0 : ByteArray) (r1 : Int) (r2 : Int) (r3 : Int) (r4 : ByteArray) (r5 : ByteArray) (r6 : Bool) (w : World) (h : armadaref07_Parse.f k a0 = some (r1, r2, r3, r4, r5, r6)) :
  Calls Tryd.prog 12 #[.string a0] w fun e w' => e = .returned (.tuple #[.agg #[.int .i64 r1, .int .i64 r2, .int .i64 r3, .string r4, .string r5], .bool r6]) ∧ Below w.heap.size w w' := by
 have hu23 := Tryd.underlying23
 have HB := Aside0.mk (Below.refl w.heap.size w)
 have H : (if (a0.size : Int) > 100 then (armadaref07_Parse.j0 k a0 a0 true 0 0 0 (⟨#[]⟩ : ByteArray) (⟨#[]⟩ : ByteArray)) else (if (a0.size : Int) = 0 then (armadaref07_Parse.j0 k a0 a0 true 0 0 0 (⟨#[]⟩ : ByteArray) (⟨#[]⟩ : ByteArray)) else (if 0 < (a0.size : Int) then (armadaref07_Parse.j0 k a0 a0 ((bt a0 0) != 118) 0 0 0 (⟨#[]⟩ : ByteArray) (⟨#[]⟩ : ByteArray)) else (none)))) = some (r1, r2, r3, r4, r5, r6) := h
 clear h
 have HC2 := Aside0.mk H
 clear H
 go_enter Tryd.func12, Tryd.ntmps12
 go_upto_region 3 with (first | ((with_reducible refine gate_dst (N := 2) rfl ?_); (try (refine gate_guard (by rfl) ?_; dsimp only)); refine box_event ?hg (N := 2) ?hd (cs := #[.int .i64 0, .int .i64 0, .int .i64 0, .string (⟨#[]⟩ : ByteArray), .string (⟨#[]⟩ : ByteArray)]) (t := 23) ?hr ?_; (case hd => rfl); (case hg => rfl); (case hr => first | (go_simp; done) | (go_simp; rfl)); intro gb279 hg w3 hbox hb; have n0_ := Aside0.mk (below_step (by repeat (first | (with_reducible first | exact HB.out | apply yA_ | apply yN_ | apply yD_) | exact HB.out)) hb); have n1_ := Aside0.mk (hbox); have n2_ := Aside0.mk ((by rw [hg]; exact (below_size (by repeat (first | (with_reducible first | exact HB.out | apply yA_ | apply yN_ | apply yD_) | exact HB.out))) : w.heap.size ≤ gb279)); have n3_ := Aside0.mk ((by rw [hg]; exact (below_size (by repeat (first | (with_reducible first | exact HB.out | apply yA_ | apply yN_ | apply yD_) | exact HB.out))) : w.heap.size ≤ gb279)); clear HB; have HB := n0_; have BK279 := n1_; have GW279 := n2_; have GE279 := n3_; clear n0_ n1_ n2_ n3_; clear hb hbox hg) | ((with_reducible refine gate_dst (N := 4) rfl ?_); (try (refine gate_guard (by rfl) ?_; dsimp only)); refine box_event ?hg (N := 4) ?hd (cs := #[.int .i64 0, .int .i64 0, .int .i64 0, .string (⟨#[]⟩ : ByteArray), .string (⟨#[]⟩ : ByteArray)]) (t := 23) ?hr ?_; (case hd => rfl); (case hg => rfl); (case hr => first | (go_simp; done) | (go_simp; rfl)); intro gb280 hg w4 hbox hb; have n0_ := Aside0.mk (blk_below (g := gb279) (o := .cells #[.int .i64 0, .int .i64 0, .int .i64 0, .string (⟨#[]⟩ : ByteArray), .string (⟨#[]⟩ : ByteArray)] 23 (0, 0)) (by (with_reducible repeat (first | apply xN_ | apply xD_ | apply xA_)); exact BK279.out) hb); have n1_ := Aside0.mk (below_step (by repeat (first | (with_reducible first | exact HB.out | apply yA_ | apply yN_ | apply yD_ | refine yS_ ?_ GE279.out) | exact HB.out)) hb); have n2_ := Aside0.mk (hbox); have n3_ := Aside0.mk ((by rw [hg]; exact (below_size (by repeat (first | (with_reducible first | exact HB.out | apply yA_ | apply yN_ | apply yD_ | refine yS_ ?_ GE279.out) | exact HB.out))) : w.heap.size ≤ gb280)); have n4_ := Aside0.mk ((by rw [hg]; exact (below_size (by repeat (first | (with_reducible first | exact HB.out | apply yA_ | apply yN_ | apply yD_ | refine yS_ ?_ GE279.out) | exact HB.out))) : w.heap.size ≤ gb280)); have n5_ := Aside0.mk ((by rw [hg]; exact Nat.ne_of_lt (blk_lt (g := gb279) (o := .cells #[.int .i64 0, .int .i64 0, .int .i64 0, .string (⟨#[]⟩ : ByteArray), .string (⟨#[]⟩ : ByteArray)] 23 (0, 0)) (by (with_reducible repeat (first | apply xN_ | apply xD_ | apply xA_)); exact BK279.out)) : gb279 ≠ gb280)); have n6_ := Aside0.mk ((by rw [hg]; exact Nat.ne_of_gt (blk_lt (g := gb279) (o := .cells #[.int .i64 0, .int .i64 0, .int .i64 0, .string (⟨#[]⟩ : ByteArray), .string (⟨#[]⟩ : ByteArray)] 23 (0, 0)) (by (with_reducible repeat (first | apply xN_ | apply xD_ | apply xA_)); exact BK279.out)) : gb280 ≠ gb279)); clear BK279; clear HB; have BK279 := n0_; have HB := n1_; have BK280 := n2_; have GW280 := n3_; have GE280 := n4_; have NB279_280 := n5_; have NB280_279 := n6_; clear n0_ n1_ n2_ n3_ n4_ n5_ n6_; clear hb hbox hg))
 (try simp only [Act.put, List.setIfInBounds_toArray, List.set_cons_zero, List.set_cons_succ])
 go_cut [22] (fun v22 wc => ∃ (kq : Nat) (x22_1 : Bool), v22 = .bool x22_1 ∧ Aside0 (armadaref07_Parse.j0 kq a0 a0 x22_1 0 0 0 (⟨#[]⟩ : ByteArray) (⟨#[]⟩ : ByteArray) = some (r1, r2, r3, r4, r5, r6)) ∧ Aside0 (kq ≤ k) ∧ Aside0 (wc.heap[gb279]? = some (.cells #[.int .i64 0, .int .i64 0, .int .i64 0, .string (⟨#[]⟩ : ByteArray), .string (⟨#[]⟩ : ByteArray)] 23 (0, 0))) ∧ Aside0 (wc.heap[gb280]? = some (.cells #[.int .i64 0, .int .i64 0, .int .i64 0, .string (⟨#[]⟩ : ByteArray), .string (⟨#[]⟩ : ByteArray)] 23 (0, 0))) ∧ Aside0 (Below w.heap.size w wc))
 case first =>
  have H := HC2.out
  clear HC2
  by_cases c5 : (a0.size : Int) > 100
  ·rw [if_pos c5] at H
   have c5b0 : decide (100 < (a0.size : Int)) = true := decide_eq_true c5
   have c5b1 : decide (100 < a0.size) = true := decide_eq_true (by omega)
   clear c5
   (first | rw [c5b0] | (simp only [i64_w, i32_w]; rw [c5b0]) | skip)
   have H' := Aside0.mk H
   clear H
   go_wp2
   go_meet
   case rel => exact ⟨_, (true), (by first | rfl | (simp; done) | (simp [*]; done)), H', ⟨by first | omega | exact Nat.le_refl _⟩, ⟨by (with_reducible repeat (first | apply xN_ | apply xD_ | apply xA_)); exact BK279.out⟩, ⟨by (with_reducible repeat (first | apply xN_ | apply xD_ | apply xA_)); exact BK280.out⟩, ⟨by repeat (first | (with_reducible first | exact HB.out | apply yA_ | apply yN_ | apply yD_ | refine yS_ ?_ GE279.out | refine yS_ ?_ GE280.out) | exact HB.out)⟩⟩
  ·rw [if_neg c5] at H
   have c5b0 : decide (100 < (a0.size : Int)) = false := decide_eq_false c5
   have c5b1 : decide (100 < a0.size) = false := decide_eq_false (by omega)
   clear c5
   (first | rw [c5b0] | (simp only [i64_w, i32_w]; rw [c5b0]) | skip)
   by_cases c6 : (a0.size : Int) = 0
   ·rw [if_pos c6] at H
    have c6b0 : ((a0.size : Int) == 0) = true := beq_iff_eq.mpr c6
    have c6b1 : ((a0.size : Int) != 0) = false := bne_eq_false_iff_eq.mpr c6
    clear c6
    have H' := Aside0.mk H
    clear H
    go_wp2
    go_meet
    case rel => exact ⟨_, (true), (by first | rfl | (simp; done) | (simp [*]; done)), H', ⟨by first | omega | exact Nat.le_refl _⟩, ⟨by (with_reducible repeat (first | apply xN_ | apply xD_ | apply xA_)); exact BK279.out⟩, ⟨by (with_reducible repeat (first | apply xN_ | apply xD_ | apply xA_)); exact BK280.out⟩, ⟨by repeat (first | (with_reducible first | exact HB.out | apply yA_ | apply yN_ | apply yD_ | refine yS_ ?_ GE279.out | refine yS_ ?_ GE280.out) | exact HB.out)⟩⟩
   ·rw [if_neg c6] at H
    have c6b0 : ((a0.size : Int) == 0) = false := beq_eq_false_iff_ne.mpr c6
    have c6b1 : ((a0.size : Int) != 0) = true := bne_iff_ne.mpr c6
    by_cases c7 : 0 < (a0.size : Int)
    ·rw [if_pos c7] at H
     have c7b0 : decide (0 < (a0.size : Int)) = true := decide_eq_true c7
     have c7b1 : decide (0 < a0.size) = true := decide_eq_true (by omega)
     clear c7
     have H' := Aside0.mk H
     clear H
     have p8 : 0 ≤ (0 : Int) := (by omega)
     have q8 : 0 < a0.size := (by have : (0 : Int) < (a0.size : Int) := of_decide_eq_true (by first | (with_reducible assumption) | assumption); omega)
     have hx8 : ∀ h : 0 < a0.size, ((a0[0]'h).toNat : Int) = bt a0 0 := bt_at a0 0
     clear p8
     have qi8 : (0 < (a0.size : Int)) = True := eq_true (of_decide_eq_true (by first | (with_reducible assumption) | assumption))
     replace q8 := eq_true q8
     go_wp2
     go_meet
     case rel => exact ⟨_, (((bt a0 0) != 118)), (by first | rfl | (simp; done) | (simp [*]; done)), H', ⟨by first | omega | exact Nat.le_refl _⟩, ⟨by (with_reducible repeat (first | apply xN_ | apply xD_ | apply xA_)); exact BK279.out⟩, ⟨by (with_reducible repeat (first | apply xN_ | apply xD_ | apply xA_)); exact BK280.out⟩, ⟨by repeat (first | (with_reducible first | exact HB.out | apply yA_ | apply yN_ | apply yD_ | refine yS_ ?_ GE279.out | refine yS_ ?_ GE280.out) | exact HB.out)⟩⟩
    ·rw [if_neg c7] at H
     exact absurd H (by simp)
 case rest =>
  clear HC2
  (try clear c1); (try clear p2); (try clear c5); (try clear c5b0); (try clear c5b1); (try clear c6); (try clear c6b0); (try clear c6b1); (try clear c7); (try clear c7b0)
  (try clear c7b1); (try clear p8); (try clear q8); (try clear hx8); (try clear qi8); (try clear p8); (try clear q8)
  obtain ⟨kq, x22_1, rfl, HA, HJ1, BK279, BK280, HB⟩ := hcut
  cases kq with
  | zero => exact absurd HA.out (by simp [armadaref07_Parse.j0])
  | succ kj1 =>
   have H := HA.out
   clear HA
   simp only [armadaref07_Parse.j0] at H
   by_cases c9 : x22_1 = true
   ·subst c9
    have H1 : (some (0, 0, 0, (⟨#[]⟩ : ByteArray), (⟨#[]⟩ : ByteArray), false)) = some (r1, r2, r3, r4, r5, r6) := by rw [if_pos rfl] at H; exact H
    clear H
    have H := H1
    clear H1
    simp only [Option.some.injEq, Prod.mk.injEq] at H
    obtain ⟨rfl, rfl, rfl, rfl, rfl, rfl⟩ := H
    have hnb10 := NB279_280.out
    have hnc10 := NB280_279.out
    have hcz11_0 : wc.cell? ⟨gb279, 0, none⟩ = some (.int .i64 0) := (xC_ BK279.out 0).trans rfl
    have hcz11_1 : wc.cell? ⟨gb279, 1, none⟩ = some (.int .i64 0) := (xC_ BK279.out 1).trans rfl
    have hcz11_2 : wc.cell? ⟨gb279, 2, none⟩ = some (.int .i64 0) := (xC_ BK279.out 2).trans rfl
    have hcz11_3 : wc.cell? ⟨gb279, 3, none⟩ = some (.string (⟨#[]⟩ : ByteArray)) := (xC_ BK279.out 3).trans rfl
    have hcz11_4 : wc.cell? ⟨gb279, 4, none⟩ = some (.string (⟨#[]⟩ : ByteArray)) := (xC_ BK279.out 4).trans rfl
    have hfz11_0 := xF_ BK279.out 0
    have hfz11_1 := xF_ BK279.out 1
    have hfz11_2 := xF_ BK279.out 2
    have hfz11_3 := xF_ BK279.out 3
    have hfz11_4 := xF_ BK279.out 4
    go_wp2
    refine bodyPost_ret (results_ct rfl _ _ gb279 23 #[.int .i64 0, .int .i64 0, .int .i64 0, .string (⟨#[]⟩ : ByteArray), .string (⟨#[]⟩ : ByteArray)] (0, 0) _ rfl (by (with_reducible repeat (first | apply xN_ | apply xD_ | apply xA_)); refine blk_put (cs := #[.int .i64 0, .int .i64 0, .int .i64 0, .string (⟨#[]⟩ : ByteArray), .string (⟨#[]⟩ : ByteArray)]) ?_ 4 _ rfl; refine blk_put (cs := #[.int .i64 0, .int .i64 0, .int .i64 0, .string (⟨#[]⟩ : ByteArray), .string (⟨#[]⟩ : ByteArray)]) ?_ 3 _ rfl; refine blk_put (cs := #[.int .i64 0, .int .i64 0, .int .i64 0, .string (⟨#[]⟩ : ByteArray), .string (⟨#[]⟩ : ByteArray)]) ?_ 2 _ rfl; refine blk_put (cs := #[.int .i64 0, .int .i64 0, .int .i64 0, .string (⟨#[]⟩ : ByteArray), .string (⟨#[]⟩ : ByteArray)]) ?_ 1 _ rfl; refine blk_put (cs := #[.int .i64 0, .int .i64 0, .int .i64 0, .string (⟨#[]⟩ : ByteArray), .string (⟨#[]⟩ : ByteArray)]) ?_ 0 _ rfl; (with_reducible repeat (first | apply xN_ | apply xD_ | apply xA_)); exact BK279.out) Tryd.underlying23 rfl (by kernel_rfl)) rfl ?_
    exact ⟨by first | rfl | (simp [errW_none, errW_some] <;> rfl) | (simp [*, errW_none, errW_some] <;> rfl), by repeat (first | (with_reducible first | exact HB.out | apply yA_ | apply yN_ | apply yD_ | refine yS_ ?_ GE279.out | refine yS_ ?_ GE280.out) | exact HB.out)⟩
   ·replace c9 := Bool.eq_false_iff.mpr c9
    subst c9
    have H1 : (if 1 ≤ (a0.size : Int) then ((armadaref07_find.f kj1 (a0.extract 1 a0.size) 43).bind fun t281 => (if t281 ≥ 0 then (if 0 ≤ (wrap64 (t281 + 1)) then (if (wrap64 (t281 + 1)) ≤ ((a0.extract 1 a0.size).size : Int) then (if 0 ≤ t281 then (if t281 ≤ ((a0.extract 1 a0.size).size : Int) then (armadaref07_Parse.j1 kj1 a0 ((a0.extract 1 a0.size).extract 0 (t281 : Int).toNat) 0 0 0 (⟨#[]⟩ : ByteArray) ((a0.extract 1 a0.size).extract ((wrap64 (t281 + 1)) : Int).toNat (a0.extract 1 a0.size).size)) else (none)) else (none)) else (none)) else (none)) else (armadaref07_Parse.j1 kj1 a0 (a0.extract 1 a0.size) 0 0 0 (⟨#[]⟩ : ByteArray) (⟨#[]⟩ : ByteArray)))) else (none)) = some (r1, r2, r3, r4, r5, r6) := by rw [if_neg (show ¬ (false = true) by decide)] at H; exact H
    clear H
    have H := H1
    clear H1
    by_cases c12 : 1 ≤ (a0.size : Int)
    ·rw [if_pos c12] at H
     have c12b0 := eq_true c12
     have c12b1 : decide (1 ≤ (a0.size : Int)) = true := decide_eq_true c12
     clear c12
     replace H := Option.bind_eq_some_iff.mp H
     obtain ⟨t281, A130, H⟩ := H
     replace H : (if t281 ≥ 0 then (if 0 ≤ (wrap64 (t281 + 1)) then (if (wrap64 (t281 + 1)) ≤ ((a0.extract 1 a0.size).size : Int) then (if 0 ≤ t281 then (if t281 ≤ ((a0.extract 1 a0.size).size : Int) then (armadaref07_Parse.j1 kj1 a0 ((a0.extract 1 a0.size).extract 0 (t281 : Int).toNat) 0 0 0 (⟨#[]⟩ : ByteArray) ((a0.extract 1 a0.size).extract ((wrap64 (t281 + 1)) : Int).toNat (a0.extract 1 a0.size).size)) else (none)) else (none)) else (none)) else (none)) else (armadaref07_Parse.j1 kj1 a0 (a0.extract 1 a0.size) 0 0 0 (⟨#[]⟩ : ByteArray) (⟨#[]⟩ : ByteArray))) = some (r1, r2, r3, r4, r5, r6) := H
     have A13 := Aside0.mk A130
     clear A130
     have HC14 := Aside0.mk H
     clear H
     go_upto_if 29 with (first | ((with_reducible refine gate_callee (f := 27) rfl ?_); refine goesL_ (some 27) rfl rfl Tryd.func27 (by kernel_rfl) rfl #[.string (a0.extract 1 a0.size), .int .u8 43] rfl (by (try simp only [List.map_toArray, List.map_cons, List.map_nil]); first | done | rfl) ?_; (with_reducible refine (armadaref07_find.calls kj1 (a0.extract 1 a0.size) 43 t281 _ A13.out).mono ?_); rintro e w' ⟨rfl, ⟨nd, rfl⟩⟩; refine ⟨_, rfl, ?_⟩) | (go_at_call 27; (with_reducible refine (armadaref07_find.calls kj1 (a0.extract 1 a0.size) 43 t281 _ A13.out).mono ?_); rintro e w' ⟨rfl, ⟨nd, rfl⟩⟩))
     (try simp only [Act.put, List.setIfInBounds_toArray, List.set_cons_zero, List.set_cons_succ])
     go_cut [5] (fun v5 wc => ∃ (kq : Nat) (x5_13 : ByteArray) (x281004_13 : ByteArray), v5 = .string x5_13 ∧ Aside0 (armadaref07_Parse.j1 kq a0 x5_13 0 0 0 (⟨#[]⟩ : ByteArray) x281004_13 = some (r1, r2, r3, r4, r5, r6)) ∧ Aside0 (kq ≤ kj1) ∧ Aside0 (wc.heap[gb279]? = some (.cells #[.int .i64 0, .int .i64 0, .int .i64 0, .string (⟨#[]⟩ : ByteArray), .string (⟨#[]⟩ : ByteArray)] 23 (0, 0))) ∧ Aside0 (wc.heap[gb280]? = some (.cells #[.int .i64 0, .int .i64 0, .int .i64 0, .string (⟨#[]⟩ : ByteArray), .string x281004_13] 23 (0, 0))) ∧ Aside0 (Below w.heap.size w wc))
     case first =>
      have H := HC14.out
      clear HC14
      by_cases c15 : t281 ≥ 0
      ·rw [if_pos c15] at H
       have c15b0 : decide (0 ≤ t281) = true := decide_eq_true c15
       clear c15
       (first | rw [c15b0] | (simp only [i64_w, i32_w]; rw [c15b0]) | skip)
       obtain ⟨ji16, hji16⟩ : ∃ j_ : Int, (wrap64 (t281 + 1)) = j_ := ⟨_, rfl⟩
       replace H : (if 0 ≤ (ji16) then (if (ji16) ≤ ((a0.extract 1 a0.size).size : Int) then (if 0 ≤ t281 then (if t281 ≤ ((a0.extract 1 a0.size).size : Int) then (armadaref07_Parse.j1 kj1 a0 ((a0.extract 1 a0.size).extract 0 (t281 : Int).toNat) 0 0 0 (⟨#[]⟩ : ByteArray) ((a0.extract 1 a0.size).extract ((ji16) : Int).toNat (a0.extract 1 a0.size).size)) else (none)) else (none)) else (none)) else (none)) = some (r1, r2, r3, r4, r5, r6) := by first | (rw [hji16] at H; exact H) | (simp only [hji16] at H ⊢; exact H)
       have hji16w : (IntKind.i64.wrap (t281 + 1)) = ji16 := (i64_w _).trans hji16
       by_cases c17 : 0 ≤ (ji16)
       ·rw [if_pos c17] at H
        have c17b0 := eq_true c17
        have c17b1 : decide (0 ≤ (ji16)) = true := decide_eq_true c17
        clear c17
        by_cases c18 : (ji16) ≤ ((a0.extract 1 a0.size).size : Int)
        ·rw [if_pos c18] at H
         have c18b0 := eq_true c18
         have c18b1 : decide ((ji16) ≤ ((a0.extract 1 a0.size).size : Int)) = true := decide_eq_true c18
         clear c18
         by_cases c19 : 0 ≤ t281
         ·rw [if_pos c19] at H
          have c19b0 := eq_true c19
          have c19b1 : decide (0 ≤ t281) = true := decide_eq_true c19
          clear c19
          by_cases c20 : t281 ≤ ((a0.extract 1 a0.size).size : Int)
          ·rw [if_pos c20] at H
           have c20b0 := eq_true c20
           have c20b1 : decide (t281 ≤ ((a0.extract 1 a0.size).size : Int)) = true := decide_eq_true c20
           clear c20
           have H' := Aside0.mk H
           clear H
           have hnb21 := NB280_279.out
           have hnc21 := NB279_280.out
           have hcz22_0 : wc.cell? ⟨gb280, 0, none⟩ = some (.int .i64 0) := (xC_ BK280.out 0).trans rfl
           have hcz22_1 : wc.cell? ⟨gb280, 1, none⟩ = some (.int .i64 0) := (xC_ BK280.out 1).trans rfl
           have hcz22_2 : wc.cell? ⟨gb280, 2, none⟩ = some (.int .i64 0) := (xC_ BK280.out 2).trans rfl
           have hcz22_3 : wc.cell? ⟨gb280, 3, none⟩ = some (.string (⟨#[]⟩ : ByteArray)) := (xC_ BK280.out 3).trans rfl
           have hcz22_4 : wc.cell? ⟨gb280, 4, none⟩ = some (.string (⟨#[]⟩ : ByteArray)) := (xC_ BK280.out 4).trans rfl
           have hfz22_0 := xF_ BK280.out 0
           have hfz22_1 := xF_ BK280.out 1
           have hfz22_2 := xF_ BK280.out 2
           have hfz22_3 := xF_ BK280.out 3
           have hfz22_4 := xF_ BK280.out 4
           generalize a0.extract 1 a0.size = X5_ at *
           go_wp2
           go_meet
           case rel => exact ⟨_, (X5_.extract 0 (t281 : Int).toNat), (X5_.extract ((ji16) : Int).toNat X5_.size), (by first | rfl | (simp; done) | (simp [*]; done)), H', ⟨by have := HJ1.out; first | omega | exact Nat.le_refl _⟩, ⟨by (with_reducible repeat (first | apply xN_ | apply xD_ | apply xA_)); refine xR_ ?_ NB279_280.out _; (with_reducible repeat (first | apply xN_ | apply xD_ | apply xA_)); exact BK279.out⟩, ⟨by (with_reducible repeat (first | apply xN_ | apply xD_ | apply xA_)); refine blk_put (cs := #[.int .i64 0, .int .i64 0, .int .i64 0, .string (⟨#[]⟩ : ByteArray), .string (⟨#[]⟩ : ByteArray)]) ?_ 4 _ rfl; (with_reducible repeat (first | apply xN_ | apply xD_ | apply xA_)); exact BK280.out⟩, ⟨by repeat (first | (with_reducible first | exact HB.out | apply yA_ | apply yN_ | apply yD_ | refine yS_ ?_ GE279.out | refine yS_ ?_ GE280.out) | exact HB.out)⟩⟩
          ·rw [if_neg c20] at H
           exact absurd H (by simp)
         ·rw [if_neg c19] at H
          exact absurd H (by simp)
        ·rw [if_neg c18] at H
         exact absurd H (by simp)
       ·rw [if_neg c17] at H
        exact absurd H (by simp)
      ·rw [if_neg c15] at H
       have c15b0 : decide (0 ≤ t281) = false := decide_eq_false c15
       clear c15
       (first | rw [c15b0] | (simp only [i64_w, i32_w]; rw [c15b0]) | skip)
       have H' := Aside0.mk H
       clear H
       go_wp2
       go_meet
       case rel => exact ⟨_, (a0.extract 1 a0.size), ((⟨#[]⟩ : ByteArray)), (by first | rfl | (simp; done) | (simp [*]; done)), H', ⟨by have := HJ1.out; first | omega | exact Nat.le_refl _⟩, ⟨by (with_reducible repeat (first | apply xN_ | apply xD_ | apply xA_)); exact BK279.out⟩, ⟨by (with_reducible repeat (first | apply xN_ | apply xD_ | apply xA_)); exact BK280.out⟩, ⟨by repeat (first | (with_reducible first | exact HB.out | apply yA_ | apply yN_ | apply yD_ | refine yS_ ?_ GE279.out | refine yS_ ?_ GE280.out) | exact HB.out)⟩⟩
     case rest =>
      clear HC14
      (try clear c1); (try clear c2); (try clear p2); (try clear c5); (try clear c5b0); (try clear c5b1); (try clear c6); (try clear c6b0); (try clear c6b1); (try clear p6)
      (try clear c7); (try clear c7b0); (try clear c7b1); (try clear p8); (try clear q8); (try clear hx8); (try clear qi8); (try clear c9); (try clear c10); (try clear c12)
      (try clear c12b0); (try clear c12b1); (try clear c15); (try clear c15b0); (try clear c17); (try clear c17b0); (try clear c17b1); (try clear c18); (try clear c18b0)
      (try clear c18b1); (try clear c19); (try clear c19b0); (try clear c19b1); (try clear c20); (try clear c20b0); (try clear c20b1); (try clear c21); (try clear hcz11_0)
      (try clear hcz11_1); (try clear hcz11_2); (try clear hcz11_3); (try clear hcz11_4); (try clear hcz22_0); (try clear hcz22_1); (try clear hcz22_2); (try clear hcz22_3)
      (try clear hcz22_4); (try clear hfz11_0); (try clear hfz11_1); (try clear hfz11_2); (try clear hfz11_3); (try clear hfz11_4); (try clear hfz22_0); (try clear hfz22_1)
      (try clear hfz22_2); (try clear hfz22_3); (try clear hfz22_4); (try clear p2); (try clear p8); (try clear q8)
      obtain ⟨kq, x5_13, x281004_13, rfl, HA, HJ13, BK279, BK280, HB⟩ := hcut
      cases kq with
      | zero => exact absurd HA.out (by simp [armadaref07_Parse.j1])
      | succ kj13 =>
       have H := HA.out
       clear HA
       simp only [armadaref07_Parse.j1] at H
       replace H := Option.bind_eq_some_iff.mp H
       obtain ⟨t282, A230, H⟩ := H
       replace H : (if t282 ≥ 0 then (if 0 ≤ (wrap64 (t282 + 1)) then (if (wrap64 (t282 + 1)) ≤ (x5_13.size : Int) then (if 0 ≤ t282 then (if t282 ≤ (x5_13.size : Int) then (armadaref07_Parse.j2 kj13 a0 (x5_13.extract 0 (t282 : Int).toNat) 0 0 0 (x5_13.extract ((wrap64 (t282 + 1)) : Int).toNat x5_13.size) x281004_13) else (none)) else (none)) else (none)) else (none)) else (armadaref07_Parse.j2 kj13 a0 x5_13 0 0 0 (⟨#[]⟩ : ByteArray) x281004_13)) = some (r1, r2, r3, r4, r5, r6) := H
       have A23 := Aside0.mk A230
       clear A230
       have HC24 := Aside0.mk H
       clear H
       go_upto_if 41 with (first | ((with_reducible refine gate_callee (f := 27) rfl ?_); refine goesL_ (some 39) rfl rfl Tryd.func27 (by kernel_rfl) rfl #[.string x5_13, .int .u8 45] rfl (by (try simp only [List.map_toArray, List.map_cons, List.map_nil]); first | done | rfl) ?_; (with_reducible refine (armadaref07_find.calls kj13 x5_13 45 t282 _ A23.out).mono ?_); rintro e w' ⟨rfl, ⟨nd, rfl⟩⟩; refine ⟨_, rfl, ?_⟩) | (go_at_call 27; (with_reducible refine (armadaref07_find.calls kj13 x5_13 45 t282 _ A23.out).mono ?_); rintro e w' ⟨rfl, ⟨nd, rfl⟩⟩))
       (try simp only [Act.put, List.setIfInBounds_toArray, List.set_cons_zero, List.set_cons_succ])
       go_cut [5] (fun v5 wc => ∃ (kq : Nat) (x5_23 : ByteArray) (x281003_23 : ByteArray), v5 = .string x5_23 ∧ Aside0 (armadaref07_Parse.j2 kq a0 x5_23 0 0 0 x281003_23 x281004_13 = some (r1, r2, r3, r4, r5, r6)) ∧ Aside0 (kq ≤ kj13) ∧ Aside0 (wc.heap[gb279]? = some (.cells #[.int .i64 0, .int .i64 0, .int .i64 0, .string (⟨#[]⟩ : ByteArray), .string (⟨#[]⟩ : ByteArray)] 23 (0, 0))) ∧ Aside0 (wc.heap[gb280]? = some (.cells #[.int .i64 0, .int .i64 0, .int .i64 0, .string x281003_23, .string x281004_13] 23 (0, 0))) ∧ Aside0 (Below w.heap.size w wc))
       case first =>
        have H := HC24.out
        clear HC24
        by_cases c25 : t282 ≥ 0
        ·rw [if_pos c25] at H
         have c25b0 : decide (0 ≤ t282) = true := decide_eq_true c25
         clear c25
         (first | rw [c25b0] | (simp only [i64_w, i32_w]; rw [c25b0]) | skip)
         obtain ⟨ji26, hji26⟩ : ∃ j_ : Int, (wrap64 (t282 + 1)) = j_ := ⟨_, rfl⟩
         replace H : (if 0 ≤ (ji26) then (if (ji26) ≤ (x5_13.size : Int) then (if 0 ≤ t282 then (if t282 ≤ (x5_13.size : Int) then (armadaref07_Parse.j2 kj13 a0 (x5_13.extract 0 (t282 : Int).toNat) 0 0 0 (x5_13.extract ((ji26) : Int).toNat x5_13.size) x281004_13) else (none)) else (none)) else (none)) else (none)) = some (r1, r2, r3, r4, r5, r6) := by first | (rw [hji26] at H; exact H) | (simp only [hji26] at H ⊢; exact H)
         have hji26w : (IntKind.i64.wrap (t282 + 1)) = ji26 := (i64_w _).trans hji26
         by_cases c27 : 0 ≤ (ji26)
         ·rw [if_pos c27] at H
          have c27b0 := eq_true c27
          have c27b1 : decide (0 ≤ (ji26)) = true := decide_eq_true c27
          clear c27
          by_cases c28 : (ji26) ≤ (x5_13.size : Int)
          ·rw [if_pos c28] at H
           have c28b0 := eq_true c28
           have c28b1 : decide ((ji26) ≤ (x5_13.size : Int)) = true := decide_eq_true c28
           clear c28
           by_cases c29 : 0 ≤ t282
           ·rw [if_pos c29] at H
            have c29b0 := eq_true c29
            have c29b1 : decide (0 ≤ t282) = true := decide_eq_true c29
            clear c29
            by_cases c30 : t282 ≤ (x5_13.size : Int)
            ·rw [if_pos c30] at H
             have c30b0 := eq_true c30
             have c30b1 : decide (t282 ≤ (x5_13.size : Int)) = true := decide_eq_true c30
             clear c30
             have H' := Aside0.mk H
             clear H
             have hnb31 := NB280_279.out
             have hnc31 := NB279_280.out
             have hcz32_0 : wc.cell? ⟨gb280, 0, none⟩ = some (.int .i64 0) := (xC_ BK280.out 0).trans rfl
             have hcz32_1 : wc.cell? ⟨gb280, 1, none⟩ = some (.int .i64 0) := (xC_ BK280.out 1).trans rfl
             have hcz32_2 : wc.cell? ⟨gb280, 2, none⟩ = some (.int .i64 0) := (xC_ BK280.out 2).trans rfl
             have hcz32_3 : wc.cell? ⟨gb280, 3, none⟩ = some (.string (⟨#[]⟩ : ByteArray)) := (xC_ BK280.out 3).trans rfl
             have hcz32_4 : wc.cell? ⟨gb280, 4, none⟩ = some (.string x281004_13) := (xC_ BK280.out 4).trans rfl
             have hfz32_0 := xF_ BK280.out 0
             have hfz32_1 := xF_ BK280.out 1
             have hfz32_2 := xF_ BK280.out 2
             have hfz32_3 := xF_ BK280.out 3
             have hfz32_4 := xF_ BK280.out 4
             go_wp2
             go_meet
             case rel => exact ⟨_, (x5_13.extract 0 (t282 : Int).toNat), (x5_13.extract ((ji26) : Int).toNat x5_13.size), (by first | rfl | (simp; done) | (simp [*]; done)), H', ⟨by have := HJ1.out; have := HJ13.out; first | omega | exact Nat.le_refl _⟩, ⟨by (with_reducible repeat (first | apply xN_ | apply xD_ | apply xA_)); refine xR_ ?_ NB279_280.out _; (with_reducible repeat (first | apply xN_ | apply xD_ | apply xA_)); exact BK279.out⟩, ⟨by (with_reducible repeat (first | apply xN_ | apply xD_ | apply xA_)); refine blk_put (cs := #[.int .i64 0, .int .i64 0, .int .i64 0, .string (⟨#[]⟩ : ByteArray), .string x281004_13]) ?_ 3 _ rfl; (with_reducible repeat (first | apply xN_ | apply xD_ | apply xA_)); exact BK280.out⟩, ⟨by repeat (first | (with_reducible first | exact HB.out | apply yA_ | apply yN_ | apply yD_ | refine yS_ ?_ GE279.out | refine yS_ ?_ GE280.out) | exact HB.out)⟩⟩
            ·rw [if_neg c30] at H
             exact absurd H (by simp)
           ·rw [if_neg c29] at H
            exact absurd H (by simp)
          ·rw [if_neg c28] at H
           exact absurd H (by simp)
         ·rw [if_neg c27] at H
          exact absurd H (by simp)
        ·rw [if_neg c25] at H
         have c25b0 : decide (0 ≤ t282) = false := decide_eq_false c25
         clear c25
         (first | rw [c25b0] | (simp only [i64_w, i32_w]; rw [c25b0]) | skip)
         have H' := Aside0.mk H
         clear H
         go_wp2
         go_meet
         case rel => exact ⟨_, (x5_13), ((⟨#[]⟩ : ByteArray)), (by first | rfl | (simp; done) | (simp [*]; done)), H', ⟨by have := HJ1.out; have := HJ13.out; first | omega | exact Nat.le_refl _⟩, ⟨by (with_reducible repeat (first | apply xN_ | apply xD_ | apply xA_)); exact BK279.out⟩, ⟨by (with_reducible repeat (first | apply xN_ | apply xD_ | apply xA_)); exact BK280.out⟩, ⟨by repeat (first | (with_reducible first | exact HB.out | apply yA_ | apply yN_ | apply yD_ | refine yS_ ?_ GE279.out | refine yS_ ?_ GE280.out) | exact HB.out)⟩⟩
       case rest =>
        clear HC24
        (try clear c1); (try clear c2); (try clear p2); (try clear c3); (try clear c5); (try clear c5b0); (try clear c5b1); (try clear c6); (try clear c6b0); (try clear c6b1)
        (try clear p6); (try clear c7); (try clear c7b0); (try clear c7b1); (try clear p8); (try clear q8); (try clear hx8); (try clear qi8); (try clear c9); (try clear c10)
        (try clear c12); (try clear c12b0); (try clear c12b1); (try clear c15); (try clear c15b0); (try clear c17); (try clear c17b0); (try clear c17b1); (try clear c18)
        (try clear c18b0); (try clear c18b1); (try clear c19); (try clear c19b0); (try clear c19b1); (try clear c20); (try clear c20b0); (try clear c20b1); (try clear c21)
        (try clear c25); (try clear c25b0); (try clear c27); (try clear c27b0); (try clear c27b1); (try clear c28); (try clear c28b0); (try clear c28b1); (try clear c29)
        (try clear c29b0); (try clear c29b1); (try clear c30); (try clear c30b0); (try clear c30b1); (try clear c31); (try clear hcz11_0); (try clear hcz11_1); (try clear hcz11_2)
        (try clear hcz11_3); (try clear hcz11_4); (try clear hcz22_0); (try clear hcz22_1); (try clear hcz22_2); (try clear hcz22_3); (try clear hcz22_4); (try clear hcz32_0)
        (try clear hcz32_1); (try clear hcz32_2); (try clear hcz32_3); (try clear hcz32_4); (try clear hfz11_0); (try clear hfz11_1); (try clear hfz11_2); (try clear hfz11_3)
        (try clear hfz11_4); (try clear hfz22_0); (try clear hfz22_1); (try clear hfz22_2); (try clear hfz22_3); (try clear hfz22_4); (try clear hfz32_0); (try clear hfz32_1)
        (try clear hfz32_2); (try clear hfz32_3); (try clear hfz32_4); (try clear p2); (try clear p6); (try clear p8); (try clear q8)
        obtain ⟨kq, x5_23, x281003_23, rfl, HA, HJ23, BK279, BK280, HB⟩ := hcut
        cases kq with
        | zero => exact absurd HA.out (by simp [armadaref07_Parse.j2])
        | succ kj23 =>
         have H := HA.out
         clear HA
         simp only [armadaref07_Parse.j2] at H
         replace H := Option.bind_eq_some_iff.mp H
         obtain ⟨t283, A330, H⟩ := H
         replace H : (if (t283.length : Int) = 3 then (if 0 < (t283.length : Int) then ((armadaref07_read.f kj23 (rdOf ByteArray.empty t283 0)).bind fun t287 => (if 1 < (t283.length : Int) then ((armadaref07_read.f kj23 (rdOf ByteArray.empty t283 1)).bind fun t289 => (if 2 < (t283.length : Int) then ((armadaref07_read.f kj23 (rdOf ByteArray.empty t283 2)).bind fun t291 => ((armadaref07_Text.f kj23 t287 t289 t291 x281003_23 x281004_13).bind fun t292 => (if t292.toList = a0.toList then (some (t287, t289, t291, x281003_23, x281004_13, true)) else (some (0, 0, 0, (⟨#[]⟩ : ByteArray), (⟨#[]⟩ : ByteArray), false))))) else (none))) else (none))) else (none)) else (some (0, 0, 0, (⟨#[]⟩ : ByteArray), (⟨#[]⟩ : ByteArray), false))) = some (r1, r2, r3, r4, r5, r6) := H
         have A33 := Aside0.mk A330
         clear A330
         by_cases c34 : (t283.length : Int) = 3
         ·rw [if_pos c34] at H
          have c34b0 : ((t283.length : Int) == 3) = true := beq_iff_eq.mpr c34
          have c34b1 : ((t283.length : Int) != 3) = false := bne_eq_false_iff_eq.mpr c34
          clear c34
          by_cases c35 : 0 < (t283.length : Int)
          ·rw [if_pos c35] at H
           have c35b0 : decide (0 < (t283.length : Int)) = true := decide_eq_true c35
           have c35b1 : decide (0 < t283.length) = true := decide_eq_true (by omega)
           clear c35
           replace H := Option.bind_eq_some_iff.mp H
           obtain ⟨t287, A360, H⟩ := H
           replace H : (if 1 < (t283.length : Int) then ((armadaref07_read.f kj23 (rdOf ByteArray.empty t283 1)).bind fun t289 => (if 2 < (t283.length : Int) then ((armadaref07_read.f kj23 (rdOf ByteArray.empty t283 2)).bind fun t291 => ((armadaref07_Text.f kj23 t287 t289 t291 x281003_23 x281004_13).bind fun t292 => (if t292.toList = a0.toList then (some (t287, t289, t291, x281003_23, x281004_13, true)) else (some (0, 0, 0, (⟨#[]⟩ : ByteArray), (⟨#[]⟩ : ByteArray), false))))) else (none))) else (none)) = some (r1, r2, r3, r4, r5, r6) := H
           have A36 := Aside0.mk A360
           clear A360
           by_cases c37 : 1 < (t283.length : Int)
           ·rw [if_pos c37] at H
            have c37b0 : decide (1 < (t283.length : Int)) = true := decide_eq_true c37
            have c37b1 : decide (1 < t283.length) = true := decide_eq_true (by omega)
            clear c37
            replace H := Option.bind_eq_some_iff.mp H
            obtain ⟨t289, A380, H⟩ := H
            replace H : (if 2 < (t283.length : Int) then ((armadaref07_read.f kj23 (rdOf ByteArray.empty t283 2)).bind fun t291 => ((armadaref07_Text.f kj23 t287 t289 t291 x281003_23 x281004_13).bind fun t292 => (if t292.toList = a0.toList then (some (t287, t289, t291, x281003_23, x281004_13, true)) else (some (0, 0, 0, (⟨#[]⟩ : ByteArray), (⟨#[]⟩ : ByteArray), false))))) else (none)) = some (r1, r2, r3, r4, r5, r6) := H
            have A38 := Aside0.mk A380
            clear A380
            by_cases c39 : 2 < (t283.length : Int)
            ·rw [if_pos c39] at H
             have c39b0 : decide (2 < (t283.length : Int)) = true := decide_eq_true c39
             have c39b1 : decide (2 < t283.length) = true := decide_eq_true (by omega)
             clear c39
             replace H := Option.bind_eq_some_iff.mp H
             obtain ⟨t291, A400, H⟩ := H
             replace H : ((armadaref07_Text.f kj23 t287 t289 t291 x281003_23 x281004_13).bind fun t292 => (if t292.toList = a0.toList then (some (t287, t289, t291, x281003_23, x281004_13, true)) else (some (0, 0, 0, (⟨#[]⟩ : ByteArray), (⟨#[]⟩ : ByteArray), false)))) = some (r1, r2, r3, r4, r5, r6) := H
             have A40 := Aside0.mk A400
             clear A400
             replace H := Option.bind_eq_some_iff.mp H
             obtain ⟨t292, A410, H⟩ := H
             replace H : (if t292.toList = a0.toList then (some (t287, t289, t291, x281003_23, x281004_13, true)) else (some (0, 0, 0, (⟨#[]⟩ : ByteArray), (⟨#[]⟩ : ByteArray), false))) = some (r1, r2, r3, r4, r5, r6) := H
             have A41 := Aside0.mk A410
             clear A410
             by_cases c42 : t292.toList = a0.toList
             ·rw [if_pos c42] at H
              have c42b0 : (t292.toList == a0.toList) = true := beq_iff_eq.mpr c42
              have c42b1 : (t292.toList != a0.toList) = false := bne_eq_false_iff_eq.mpr c42
              clear c42
              simp only [Option.some.injEq, Prod.mk.injEq] at H
              obtain ⟨rfl, rfl, rfl, rfl, rfl, rfl⟩ := H
              go_wp2_with (first | ((with_reducible refine gate_callee (f := 28) rfl ?_); refine goesL_ (some 51) rfl rfl Tryd.func28 (by kernel_rfl) rfl #[.string x5_23, .int .u8 46] rfl (by (try simp only [List.map_toArray, List.map_cons, List.map_nil]); first | done | rfl) ?_; (with_reducible refine (armadaref05_Split.calls kj23 x5_23 46 t283 _ A33.out).mono ?_); rintro e w43 ⟨v284, rfl, ho0, hb⟩; refine ⟨_, rfl, ?_⟩; have n0_ := Aside0.mk (Kd.R_lower ho0 (below_size (by repeat (first | (with_reducible first | exact HB.out | apply yA_ | apply yN_ | apply yD_ | refine yS_ ?_ GE279.out | refine yS_ ?_ GE280.out) | exact HB.out)))); have n1_ := Aside0.mk (blk_below (g := gb279) (o := .cells #[.int .i64 0, .int .i64 0, .int .i64 0, .string (⟨#[]⟩ : ByteArray), .string (⟨#[]⟩ : ByteArray)] 23 (0, 0)) (by (with_reducible repeat (first | apply xN_ | apply xD_ | apply xA_)); exact BK279.out) hb); have n2_ := Aside0.mk (blk_below (g := gb280) (o := .cells #[.int .i64 0, .int .i64 0, .int .i64 0, .string x281003_23, .string x281004_13] 23 (0, 0)) (by (with_reducible repeat (first | apply xN_ | apply xD_ | apply xA_)); exact BK280.out) hb); have n3_ := Aside0.mk (below_step (by repeat (first | (with_reducible first | exact HB.out | apply yA_ | apply yN_ | apply yD_ | refine yS_ ?_ GE279.out | refine yS_ ?_ GE280.out) | exact HB.out)) hb); clear BK279; clear BK280; clear HB; have HO285 := n0_; have BK279 := n1_; have BK280 := n2_; have HB := n3_; clear n0_ n1_ n2_ n3_; (try clear hb); (try clear hb2); (try clear hk); (try clear hi); (try clear ho0); obtain ⟨Ao44, co44, eo44⟩ := Kd.R_slice HO285.out; subst eo44; have p286 : 0 ≤ (0 : Int) := (by omega); have q286 : 0 < (t283.length : Int) := of_decide_eq_true (by first | (with_reducible assumption) | assumption); obtain ⟨ad286, e286, hx286_0⟩ := Kd.at_string (Kd.R_reads' HO285.out).2.2 0 p286 q286; cases e286; have qi286 : (0 < t283.length) = True := eq_true (by omega); (try rw [show ((0 : Int)).toNat = 0 from rfl] at hx286_0); (try rw [Addr.add_zero'] at hx286_0); replace p286 := eq_true p286; replace q286 := eq_true q286) | ((with_reducible refine gate_callee (f := 29) rfl ?_); refine goesL_ (some 59) rfl rfl Tryd.func29 (by kernel_rfl) rfl #[.string (rdOf ByteArray.empty t283 0)] rfl (by (try simp only [List.map_toArray, List.map_cons, List.map_nil]); first | done | rfl) ?_; (with_reducible refine (armadaref07_read.calls kj23 (rdOf ByteArray.empty t283 0) t287 _ A36.out).mono ?_); rintro e w' ⟨rfl, ⟨nd, rfl⟩⟩; refine ⟨_, rfl, ?_⟩; (try (rw [drewN_self w43]; generalize hq_ : World.drewN w43 _ = w43; have n0_ : Aside0 (Kd.R Kd.string 9 w43 w.heap.size (fun _ => True) (.slice (some ad286) t283.length co44) t283) := ⟨by rw [← hq_]; exact (by (with_reducible repeat (first | apply Kd.R_alloc | apply Kd.R_drewN | apply Kd.R_drew)); exact HO285.out)⟩; have n1_ : Aside0 (w43.heap[gb279]? = some (.cells #[.int .i64 0, .int .i64 0, .int .i64 0, .string (⟨#[]⟩ : ByteArray), .string (⟨#[]⟩ : ByteArray)] 23 (0, 0))) := ⟨by rw [← hq_]; exact (by (with_reducible repeat (first | apply xN_ | apply xD_ | apply xA_)); exact BK279.out)⟩; have n2_ : Aside0 (w43.heap[gb280]? = some (.cells #[.int .i64 0, .int .i64 0, .int .i64 0, .string x281003_23, .string x281004_13] 23 (0, 0))) := ⟨by rw [← hq_]; exact (by (with_reducible repeat (first | apply xN_ | apply xD_ | apply xA_)); exact BK280.out)⟩; have n3_ : Aside0 (Below w.heap.size w w43) := ⟨by rw [← hq_]; exact (by repeat (first | (with_reducible first | exact HB.out | apply yA_ | apply yN_ | apply yD_ | refine yS_ ?_ GE279.out | refine yS_ ?_ GE280.out) | exact HB.out))⟩; clear HO285 BK279 BK280 HB hq_; have HO285 := n0_; have BK279 := n1_; have BK280 := n2_; have HB := n3_; clear n0_ n1_ n2_ n3_)); have hnb45 := NB280_279.out; have hnc45 := NB279_280.out; have hcz46_0 : w43.cell? ⟨gb280, 0, none⟩ = some (.int .i64 0) := (xC_ BK280.out 0).trans rfl; have hcz46_1 : w43.cell? ⟨gb280, 1, none⟩ = some (.int .i64 0) := (xC_ BK280.out 1).trans rfl; have hcz46_2 : w43.cell? ⟨gb280, 2, none⟩ = some (.int .i64 0) := (xC_ BK280.out 2).trans rfl; have hcz46_3 : w43.cell? ⟨gb280, 3, none⟩ = some (.string x281003_23) := (xC_ BK280.out 3).trans rfl; have hcz46_4 : w43.cell? ⟨gb280, 4, none⟩ = some (.string x281004_13) := (xC_ BK280.out 4).trans rfl; have hfz46_0 := xF_ BK280.out 0; have hfz46_1 := xF_ BK280.out 1; have hfz46_2 := xF_ BK280.out 2; have hfz46_3 := xF_ BK280.out 3; have hfz46_4 := xF_ BK280.out 4; have p288 : 0 ≤ (1 : Int) := (by omega); have q288 : 1 < (t283.length : Int) := of_decide_eq_true (by first | (with_reducible assumption) | assumption); obtain ⟨ad288, e288, hx288_0⟩ := Kd.at_string (Kd.R_reads' HO285.out).2.2 1 p288 q288; obtain rfl : ad286 = ad288 := (by injection e288); (try simp only [show (1 : Int).toNat = 1 from rfl, Nat.reduceMul, Nat.reduceEqDiff, Go.Addr.add, ↓reduceIte] at hx288_0); have qi288 : (1 < t283.length) = True := eq_true (by omega); (try rw [show ((1 : Int)).toNat = 1 from rfl] at hx288_0); have hn288_0 : ad286.block ≠ gb280 := Kd.own_blk (Kd.R_ne HO285.out BK280.out (by decide)); have hy288_0 := hx288_0; replace hx288_0 := (cell_far (p := ⟨gb280, 0, none⟩) (by first | (rw [add_block]; exact hn288_0) | (show (Addr.add _ _).block ≠ _; rw [add_block]; exact hn288_0) | exact hn288_0) (.int .i64 t287)).trans hx288_0; clear hn288_0; replace p288 := eq_true p288; replace q288 := eq_true q288) | (go_at_call 29; (with_reducible refine (armadaref07_read.calls kj23 (rdOf ByteArray.empty t283 0) t287 _ A36.out).mono ?_); rintro e w' ⟨rfl, ⟨nd, rfl⟩⟩) | ((with_reducible refine gate_callee (f := 29) rfl ?_); refine goesL_ (some 64) rfl rfl Tryd.func29 (by kernel_rfl) rfl #[.string (rdOf ByteArray.empty t283 1)] rfl (by (try simp only [List.map_toArray, List.map_cons, List.map_nil]); first | done | rfl) ?_; (with_reducible refine (armadaref07_read.calls kj23 (rdOf ByteArray.empty t283 1) t289 _ A38.out).mono ?_); rintro e w' ⟨rfl, ⟨nd, rfl⟩⟩; refine ⟨_, rfl, ?_⟩; have p290 : 0 ≤ (2 : Int) := (by omega); have q290 : 2 < (t283.length : Int) := of_decide_eq_true (by first | (with_reducible assumption) | assumption); obtain ⟨ad290, e290, hx290_0⟩ := Kd.at_string (Kd.R_reads' HO285.out).2.2 2 p290 q290; obtain rfl : ad286 = ad290 := (by injection e290); (try simp only [show (2 : Int).toNat = 2 from rfl, Nat.reduceMul, Nat.reduceEqDiff, Go.Addr.add, ↓reduceIte] at hx290_0); have qi290 : (2 < t283.length) = True := eq_true (by omega); (try rw [show ((2 : Int)).toNat = 2 from rfl] at hx290_0); have hn290_0 : ad286.block ≠ gb280 := Kd.own_blk (Kd.R_ne HO285.out BK280.out (by decide)); have hn290_1 : ad286.block ≠ gb280 := Kd.own_blk (Kd.R_ne HO285.out BK280.out (by decide)); have hy290_0 := hx290_0; replace hx290_0 := (cell_far (p := ⟨gb280, 0, none⟩) (by first | (rw [add_block]; exact hn290_0) | (show (Addr.add _ _).block ≠ _; rw [add_block]; exact hn290_0) | exact hn290_0) (.int .i64 t287)).trans hx290_0; replace hx290_0 := (cell_far (p := ⟨gb280, 1, none⟩) (by first | (rw [add_block]; exact hn290_1) | (show (Addr.add _ _).block ≠ _; rw [add_block]; exact hn290_1) | exact hn290_1) (.int .i64 t289)).trans hx290_0; clear hn290_0; clear hn290_1; replace p290 := eq_true p290; replace q290 := eq_true q290) | (go_at_call 29; (with_reducible refine (armadaref07_read.calls kj23 (rdOf ByteArray.empty t283 1) t289 _ A38.out).mono ?_); rintro e w' ⟨rfl, ⟨nd, rfl⟩⟩) | ((with_reducible refine gate_callee (f := 29) rfl ?_); refine goesL_ (some 69) rfl rfl Tryd.func29 (by kernel_rfl) rfl #[.string (rdOf ByteArray.empty t283 2)] rfl (by (try simp only [List.map_toArray, List.map_cons, List.map_nil]); first | done | rfl) ?_; (with_reducible refine (armadaref07_read.calls kj23 (rdOf ByteArray.empty t283 2) t291 _ A40.out).mono ?_); rintro e w' ⟨rfl, ⟨nd, rfl⟩⟩; refine ⟨_, rfl, ?_⟩) | (go_at_call 29; (with_reducible refine (armadaref07_read.calls kj23 (rdOf ByteArray.empty t283 2) t291 _ A40.out).mono ?_); rintro e w' ⟨rfl, ⟨nd, rfl⟩⟩) | ((with_reducible refine gate_callee (f := 16) rfl ?_); refine goesL_ (some 72) rfl rfl Tryd.func16 (by kernel_rfl) rfl #[.agg #[.int .i64 t287, .int .i64 t289, .int .i64 t291, .string x281003_23, .string x281004_13]] rfl (by (try simp only [List.map_toArray, List.map_cons, List.map_nil]); first | done | rfl) ?_; (with_reducible refine (armadaref07_Text.calls kj23 t287 t289 t291 x281003_23 x281004_13 t292 _ A41.out).mono ?_); rintro e w47 ⟨rfl, hb⟩; refine ⟨_, rfl, ?_⟩; have n0_ := Aside0.mk (Kd.R_below (by (with_reducible repeat (first | apply Kd.R_alloc | apply Kd.R_drewN | apply Kd.R_drew)); exact (Kd.R_mono (Kd.R_far (p := ⟨gb280, 2, none⟩) (Kd.R_far (p := ⟨gb280, 1, none⟩) (Kd.R_far (p := ⟨gb280, 0, none⟩) (Kd.R_types HO285.out BK280.out (by decide)) (fun _ hk => hk.2) (.int .i64 t287)) (fun _ hk => hk.2) (.int .i64 t289)) (fun _ hk => hk.2) (.int .i64 t291)) (fun _ h_ => h_.1))) hb); have n1_ := Aside0.mk (blk_below (g := gb279) (o := .cells #[.int .i64 0, .int .i64 0, .int .i64 0, .string (⟨#[]⟩ : ByteArray), .string (⟨#[]⟩ : ByteArray)] 23 (0, 0)) (by (with_reducible repeat (first | apply xN_ | apply xD_ | apply xA_)); refine xR_ ?_ NB279_280.out _; refine xR_ ?_ NB279_280.out _; refine xR_ ?_ NB279_280.out _; (with_reducible repeat (first | apply xN_ | apply xD_ | apply xA_)); exact BK279.out) hb); have n2_ := Aside0.mk (blk_below (g := gb280) (o := .cells #[.int .i64 t287, .int .i64 t289, .int .i64 t291, .string x281003_23, .string x281004_13] 23 (0, 0)) (by (with_reducible repeat (first | apply xN_ | apply xD_ | apply xA_)); refine blk_put (cs := #[.int .i64 t287, .int .i64 t289, .int .i64 0, .string x281003_23, .string x281004_13]) ?_ 2 _ rfl; refine blk_put (cs := #[.int .i64 t287, .int .i64 0, .int .i64 0, .string x281003_23, .string x281004_13]) ?_ 1 _ rfl; refine blk_put (cs := #[.int .i64 0, .int .i64 0, .int .i64 0, .string x281003_23, .string x281004_13]) ?_ 0 _ rfl; (with_reducible repeat (first | apply xN_ | apply xD_ | apply xA_)); exact BK280.out) hb); have n3_ := Aside0.mk (below_step (by repeat (first | (with_reducible first | exact HB.out | apply yA_ | apply yN_ | apply yD_ | refine yS_ ?_ GE279.out | refine yS_ ?_ GE280.out) | exact HB.out)) hb); clear HO285; clear BK279; clear BK280; clear HB; have HO285 := n0_; have BK279 := n1_; have BK280 := n2_; have HB := n3_; clear n0_ n1_ n2_ n3_; (try clear hb); (try clear hb2); (try clear hk); (try clear hi); have hcz48_0 : w47.cell? ⟨gb280, 0, none⟩ = some (.int .i64 t287) := (xC_ BK280.out 0).trans rfl; have hcz48_1 : w47.cell? ⟨gb280, 1, none⟩ = some (.int .i64 t289) := (xC_ BK280.out 1).trans rfl; have hcz48_2 : w47.cell? ⟨gb280, 2, none⟩ = some (.int .i64 t291) := (xC_ BK280.out 2).trans rfl; have hcz48_3 : w47.cell? ⟨gb280, 3, none⟩ = some (.string x281003_23) := (xC_ BK280.out 3).trans rfl; have hcz48_4 : w47.cell? ⟨gb280, 4, none⟩ = some (.string x281004_13) := (xC_ BK280.out 4).trans rfl; have hfz48_0 := xF_ BK280.out 0; have hfz48_1 := xF_ BK280.out 1; have hfz48_2 := xF_ BK280.out 2; have hfz48_3 := xF_ BK280.out 3; have hfz48_4 := xF_ BK280.out 4; have hcz49_0 : w47.cell? ⟨gb279, 0, none⟩ = some (.int .i64 0) := (xC_ BK279.out 0).trans rfl; have hcz49_1 : w47.cell? ⟨gb279, 1, none⟩ = some (.int .i64 0) := (xC_ BK279.out 1).trans rfl; have hcz49_2 : w47.cell? ⟨gb279, 2, none⟩ = some (.int .i64 0) := (xC_ BK279.out 2).trans rfl; have hcz49_3 : w47.cell? ⟨gb279, 3, none⟩ = some (.string (⟨#[]⟩ : ByteArray)) := (xC_ BK279.out 3).trans rfl; have hcz49_4 : w47.cell? ⟨gb279, 4, none⟩ = some (.string (⟨#[]⟩ : ByteArray)) := (xC_ BK279.out 4).trans rfl; have hfz49_0 := xF_ BK279.out 0; have hfz49_1 := xF_ BK279.out 1; have hfz49_2 := xF_ BK279.out 2; have hfz49_3 := xF_ BK279.out 3; have hfz49_4 := xF_ BK279.out 4))
              refine bodyPost_ret (results_ct rfl _ _ gb279 23 #[.int .i64 t287, .int .i64 t289, .int .i64 t291, .string x281003_23, .string x281004_13] (0, 0) _ rfl (by (with_reducible repeat (first | apply xN_ | apply xD_ | apply xA_)); refine blk_put (cs := #[.int .i64 t287, .int .i64 t289, .int .i64 t291, .string x281003_23, .string (⟨#[]⟩ : ByteArray)]) ?_ 4 _ rfl; refine blk_put (cs := #[.int .i64 t287, .int .i64 t289, .int .i64 t291, .string (⟨#[]⟩ : ByteArray), .string (⟨#[]⟩ : ByteArray)]) ?_ 3 _ rfl; refine blk_put (cs := #[.int .i64 t287, .int .i64 t289, .int .i64 0, .string (⟨#[]⟩ : ByteArray), .string (⟨#[]⟩ : ByteArray)]) ?_ 2 _ rfl; refine blk_put (cs := #[.int .i64 t287, .int .i64 0, .int .i64 0, .string (⟨#[]⟩ : ByteArray), .string (⟨#[]⟩ : ByteArray)]) ?_ 1 _ rfl; refine blk_put (cs := #[.int .i64 0, .int .i64 0, .int .i64 0, .string (⟨#[]⟩ : ByteArray), .string (⟨#[]⟩ : ByteArray)]) ?_ 0 _ rfl; (with_reducible repeat (first | apply xN_ | apply xD_ | apply xA_)); exact BK279.out) Tryd.underlying23 rfl (by kernel_rfl)) rfl ?_
              exact ⟨by first | rfl | (simp [errW_none, errW_some] <;> rfl) | (simp [*, errW_none, errW_some] <;> rfl), by repeat (first | (with_reducible first | exact HB.out | apply yA_ | apply yN_ | apply yD_ | refine yS_ ?_ GE279.out | refine yS_ ?_ GE280.out) | exact HB.out)⟩
             ·rw [if_neg c42] at H
              have c42b0 : (t292.toList == a0.toList) = false := beq_eq_false_iff_ne.mpr c42
              have c42b1 : (t292.toList != a0.toList) = true := bne_iff_ne.mpr c42
              simp only [Option.some.injEq, Prod.mk.injEq] at H
              obtain ⟨rfl, rfl, rfl, rfl, rfl, rfl⟩ := H
              go_wp2_with (first | ((with_reducible refine gate_callee (f := 28) rfl ?_); refine goesL_ (some 51) rfl rfl Tryd.func28 (by kernel_rfl) rfl #[.string x5_23, .int .u8 46] rfl (by (try simp only [List.map_toArray, List.map_cons, List.map_nil]); first | done | rfl) ?_; (with_reducible refine (armadaref05_Split.calls kj23 x5_23 46 t283 _ A33.out).mono ?_); rintro e w50 ⟨v284, rfl, ho0, hb⟩; refine ⟨_, rfl, ?_⟩; have n0_ := Aside0.mk (Kd.R_lower ho0 (below_size (by repeat (first | (with_reducible first | exact HB.out | apply yA_ | apply yN_ | apply yD_ | refine yS_ ?_ GE279.out | refine yS_ ?_ GE280.out) | exact HB.out)))); have n1_ := Aside0.mk (blk_below (g := gb279) (o := .cells #[.int .i64 0, .int .i64 0, .int .i64 0, .string (⟨#[]⟩ : ByteArray), .string (⟨#[]⟩ : ByteArray)] 23 (0, 0)) (by (with_reducible repeat (first | apply xN_ | apply xD_ | apply xA_)); exact BK279.out) hb); have n2_ := Aside0.mk (blk_below (g := gb280) (o := .cells #[.int .i64 0, .int .i64 0, .int .i64 0, .string x281003_23, .string x281004_13] 23 (0, 0)) (by (with_reducible repeat (first | apply xN_ | apply xD_ | apply xA_)); exact BK280.out) hb); have n3_ := Aside0.mk (below_step (by repeat (first | (with_reducible first | exact HB.out | apply yA_ | apply yN_ | apply yD_ | refine yS_ ?_ GE279.out | refine yS_ ?_ GE280.out) | exact HB.out)) hb); clear BK279; clear BK280; clear HB; have HO285 := n0_; have BK279 := n1_; have BK280 := n2_; have HB := n3_; clear n0_ n1_ n2_ n3_; (try clear hb); (try clear hb2); (try clear hk); (try clear hi); (try clear ho0); obtain ⟨Ao51, co51, eo51⟩ := Kd.R_slice HO285.out; subst eo51; have p286 : 0 ≤ (0 : Int) := (by omega); have q286 : 0 < (t283.length : Int) := of_decide_eq_true (by first | (with_reducible assumption) | assumption); obtain ⟨ad286, e286, hx286_0⟩ := Kd.at_string (Kd.R_reads' HO285.out).2.2 0 p286 q286; cases e286; have qi286 : (0 < t283.length) = True := eq_true (by omega); (try rw [show ((0 : Int)).toNat = 0 from rfl] at hx286_0); (try rw [Addr.add_zero'] at hx286_0); replace p286 := eq_true p286; replace q286 := eq_true q286) | ((with_reducible refine gate_callee (f := 29) rfl ?_); refine goesL_ (some 59) rfl rfl Tryd.func29 (by kernel_rfl) rfl #[.string (rdOf ByteArray.empty t283 0)] rfl (by (try simp only [List.map_toArray, List.map_cons, List.map_nil]); first | done | rfl) ?_; (with_reducible refine (armadaref07_read.calls kj23 (rdOf ByteArray.empty t283 0) t287 _ A36.out).mono ?_); rintro e w' ⟨rfl, ⟨nd, rfl⟩⟩; refine ⟨_, rfl, ?_⟩; (try (rw [drewN_self w50]; generalize hq_ : World.drewN w50 _ = w50; have n0_ : Aside0 (Kd.R Kd.string 9 w50 w.heap.size (fun _ => True) (.slice (some ad286) t283.length co51) t283) := ⟨by rw [← hq_]; exact (by (with_reducible repeat (first | apply Kd.R_alloc | apply Kd.R_drewN | apply Kd.R_drew)); exact HO285.out)⟩; have n1_ : Aside0 (w50.heap[gb279]? = some (.cells #[.int .i64 0, .int .i64 0, .int .i64 0, .string (⟨#[]⟩ : ByteArray), .string (⟨#[]⟩ : ByteArray)] 23 (0, 0))) := ⟨by rw [← hq_]; exact (by (with_reducible repeat (first | apply xN_ | apply xD_ | apply xA_)); exact BK279.out)⟩; have n2_ : Aside0 (w50.heap[gb280]? = some (.cells #[.int .i64 0, .int .i64 0, .int .i64 0, .string x281003_23, .string x281004_13] 23 (0, 0))) := ⟨by rw [← hq_]; exact (by (with_reducible repeat (first | apply xN_ | apply xD_ | apply xA_)); exact BK280.out)⟩; have n3_ : Aside0 (Below w.heap.size w w50) := ⟨by rw [← hq_]; exact (by repeat (first | (with_reducible first | exact HB.out | apply yA_ | apply yN_ | apply yD_ | refine yS_ ?_ GE279.out | refine yS_ ?_ GE280.out) | exact HB.out))⟩; clear HO285 BK279 BK280 HB hq_; have HO285 := n0_; have BK279 := n1_; have BK280 := n2_; have HB := n3_; clear n0_ n1_ n2_ n3_)); have hnb52 := NB280_279.out; have hnc52 := NB279_280.out; have hcz53_0 : w50.cell? ⟨gb280, 0, none⟩ = some (.int .i64 0) := (xC_ BK280.out 0).trans rfl; have hcz53_1 : w50.cell? ⟨gb280, 1, none⟩ = some (.int .i64 0) := (xC_ BK280.out 1).trans rfl; have hcz53_2 : w50.cell? ⟨gb280, 2, none⟩ = some (.int .i64 0) := (xC_ BK280.out 2).trans rfl; have hcz53_3 : w50.cell? ⟨gb280, 3, none⟩ = some (.string x281003_23) := (xC_ BK280.out 3).trans rfl; have hcz53_4 : w50.cell? ⟨gb280, 4, none⟩ = some (.string x281004_13) := (xC_ BK280.out 4).trans rfl; have hfz53_0 := xF_ BK280.out 0; have hfz53_1 := xF_ BK280.out 1; have hfz53_2 := xF_ BK280.out 2; have hfz53_3 := xF_ BK280.out 3; have hfz53_4 := xF_ BK280.out 4; have p288 : 0 ≤ (1 : Int) := (by omega); have q288 : 1 < (t283.length : Int) := of_decide_eq_true (by first | (with_reducible assumption) | assumption); obtain ⟨ad288, e288, hx288_0⟩ := Kd.at_string (Kd.R_reads' HO285.out).2.2 1 p288 q288; obtain rfl : ad286 = ad288 := (by injection e288); (try simp only [show (1 : Int).toNat = 1 from rfl, Nat.reduceMul, Nat.reduceEqDiff, Go.Addr.add, ↓reduceIte] at hx288_0); have qi288 : (1 < t283.length) = True := eq_true (by omega); (try rw [show ((1 : Int)).toNat = 1 from rfl] at hx288_0); have hn288_0 : ad286.block ≠ gb280 := Kd.own_blk (Kd.R_ne HO285.out BK280.out (by decide)); have hy288_0 := hx288_0; replace hx288_0 := (cell_far (p := ⟨gb280, 0, none⟩) (by first | (rw [add_block]; exact hn288_0) | (show (Addr.add _ _).block ≠ _; rw [add_block]; exact hn288_0) | exact hn288_0) (.int .i64 t287)).trans hx288_0; clear hn288_0; replace p288 := eq_true p288; replace q288 := eq_true q288) | (go_at_call 29; (with_reducible refine (armadaref07_read.calls kj23 (rdOf ByteArray.empty t283 0) t287 _ A36.out).mono ?_); rintro e w' ⟨rfl, ⟨nd, rfl⟩⟩) | ((with_reducible refine gate_callee (f := 29) rfl ?_); refine goesL_ (some 64) rfl rfl Tryd.func29 (by kernel_rfl) rfl #[.string (rdOf ByteArray.empty t283 1)] rfl (by (try simp only [List.map_toArray, List.map_cons, List.map_nil]); first | done | rfl) ?_; (with_reducible refine (armadaref07_read.calls kj23 (rdOf ByteArray.empty t283 1) t289 _ A38.out).mono ?_); rintro e w' ⟨rfl, ⟨nd, rfl⟩⟩; refine ⟨_, rfl, ?_⟩; have p290 : 0 ≤ (2 : Int) := (by omega); have q290 : 2 < (t283.length : Int) := of_decide_eq_true (by first | (with_reducible assumption) | assumption); obtain ⟨ad290, e290, hx290_0⟩ := Kd.at_string (Kd.R_reads' HO285.out).2.2 2 p290 q290; obtain rfl : ad286 = ad290 := (by injection e290); (try simp only [show (2 : Int).toNat = 2 from rfl, Nat.reduceMul, Nat.reduceEqDiff, Go.Addr.add, ↓reduceIte] at hx290_0); have qi290 : (2 < t283.length) = True := eq_true (by omega); (try rw [show ((2 : Int)).toNat = 2 from rfl] at hx290_0); have hn290_0 : ad286.block ≠ gb280 := Kd.own_blk (Kd.R_ne HO285.out BK280.out (by decide)); have hn290_1 : ad286.block ≠ gb280 := Kd.own_blk (Kd.R_ne HO285.out BK280.out (by decide)); have hy290_0 := hx290_0; replace hx290_0 := (cell_far (p := ⟨gb280, 0, none⟩) (by first | (rw [add_block]; exact hn290_0) | (show (Addr.add _ _).block ≠ _; rw [add_block]; exact hn290_0) | exact hn290_0) (.int .i64 t287)).trans hx290_0; replace hx290_0 := (cell_far (p := ⟨gb280, 1, none⟩) (by first | (rw [add_block]; exact hn290_1) | (show (Addr.add _ _).block ≠ _; rw [add_block]; exact hn290_1) | exact hn290_1) (.int .i64 t289)).trans hx290_0; clear hn290_0; clear hn290_1; replace p290 := eq_true p290; replace q290 := eq_true q290) | (go_at_call 29; (with_reducible refine (armadaref07_read.calls kj23 (rdOf ByteArray.empty t283 1) t289 _ A38.out).mono ?_); rintro e w' ⟨rfl, ⟨nd, rfl⟩⟩) | ((with_reducible refine gate_callee (f := 29) rfl ?_); refine goesL_ (some 69) rfl rfl Tryd.func29 (by kernel_rfl) rfl #[.string (rdOf ByteArray.empty t283 2)] rfl (by (try simp only [List.map_toArray, List.map_cons, List.map_nil]); first | done | rfl) ?_; (with_reducible refine (armadaref07_read.calls kj23 (rdOf ByteArray.empty t283 2) t291 _ A40.out).mono ?_); rintro e w' ⟨rfl, ⟨nd, rfl⟩⟩; refine ⟨_, rfl, ?_⟩) | (go_at_call 29; (with_reducible refine (armadaref07_read.calls kj23 (rdOf ByteArray.empty t283 2) t291 _ A40.out).mono ?_); rintro e w' ⟨rfl, ⟨nd, rfl⟩⟩) | ((with_reducible refine gate_callee (f := 16) rfl ?_); refine goesL_ (some 72) rfl rfl Tryd.func16 (by kernel_rfl) rfl #[.agg #[.int .i64 t287, .int .i64 t289, .int .i64 t291, .string x281003_23, .string x281004_13]] rfl (by (try simp only [List.map_toArray, List.map_cons, List.map_nil]); first | done | rfl) ?_; (with_reducible refine (armadaref07_Text.calls kj23 t287 t289 t291 x281003_23 x281004_13 t292 _ A41.out).mono ?_); rintro e w54 ⟨rfl, hb⟩; refine ⟨_, rfl, ?_⟩; have n0_ := Aside0.mk (Kd.R_below (by (with_reducible repeat (first | apply Kd.R_alloc | apply Kd.R_drewN | apply Kd.R_drew)); exact (Kd.R_mono (Kd.R_far (p := ⟨gb280, 2, none⟩) (Kd.R_far (p := ⟨gb280, 1, none⟩) (Kd.R_far (p := ⟨gb280, 0, none⟩) (Kd.R_types HO285.out BK280.out (by decide)) (fun _ hk => hk.2) (.int .i64 t287)) (fun _ hk => hk.2) (.int .i64 t289)) (fun _ hk => hk.2) (.int .i64 t291)) (fun _ h_ => h_.1))) hb); have n1_ := Aside0.mk (blk_below (g := gb279) (o := .cells #[.int .i64 0, .int .i64 0, .int .i64 0, .string (⟨#[]⟩ : ByteArray), .string (⟨#[]⟩ : ByteArray)] 23 (0, 0)) (by (with_reducible repeat (first | apply xN_ | apply xD_ | apply xA_)); refine xR_ ?_ NB279_280.out _; refine xR_ ?_ NB279_280.out _; refine xR_ ?_ NB279_280.out _; (with_reducible repeat (first | apply xN_ | apply xD_ | apply xA_)); exact BK279.out) hb); have n2_ := Aside0.mk (blk_below (g := gb280) (o := .cells #[.int .i64 t287, .int .i64 t289, .int .i64 t291, .string x281003_23, .string x281004_13] 23 (0, 0)) (by (with_reducible repeat (first | apply xN_ | apply xD_ | apply xA_)); refine blk_put (cs := #[.int .i64 t287, .int .i64 t289, .int .i64 0, .string x281003_23, .string x281004_13]) ?_ 2 _ rfl; refine blk_put (cs := #[.int .i64 t287, .int .i64 0, .int .i64 0, .string x281003_23, .string x281004_13]) ?_ 1 _ rfl; refine blk_put (cs := #[.int .i64 0, .int .i64 0, .int .i64 0, .string x281003_23, .string x281004_13]) ?_ 0 _ rfl; (with_reducible repeat (first | apply xN_ | apply xD_ | apply xA_)); exact BK280.out) hb); have n3_ := Aside0.mk (below_step (by repeat (first | (with_reducible first | exact HB.out | apply yA_ | apply yN_ | apply yD_ | refine yS_ ?_ GE279.out | refine yS_ ?_ GE280.out) | exact HB.out)) hb); clear HO285; clear BK279; clear BK280; clear HB; have HO285 := n0_; have BK279 := n1_; have BK280 := n2_; have HB := n3_; clear n0_ n1_ n2_ n3_; (try clear hb); (try clear hb2); (try clear hk); (try clear hi); have hcz55_0 : w54.cell? ⟨gb279, 0, none⟩ = some (.int .i64 0) := (xC_ BK279.out 0).trans rfl; have hcz55_1 : w54.cell? ⟨gb279, 1, none⟩ = some (.int .i64 0) := (xC_ BK279.out 1).trans rfl; have hcz55_2 : w54.cell? ⟨gb279, 2, none⟩ = some (.int .i64 0) := (xC_ BK279.out 2).trans rfl; have hcz55_3 : w54.cell? ⟨gb279, 3, none⟩ = some (.string (⟨#[]⟩ : ByteArray)) := (xC_ BK279.out 3).trans rfl; have hcz55_4 : w54.cell? ⟨gb279, 4, none⟩ = some (.string (⟨#[]⟩ : ByteArray)) := (xC_ BK279.out 4).trans rfl; have hfz55_0 := xF_ BK279.out 0; have hfz55_1 := xF_ BK279.out 1; have hfz55_2 := xF_ BK279.out 2; have hfz55_3 := xF_ BK279.out 3; have hfz55_4 := xF_ BK279.out 4))
              refine bodyPost_ret (results_ct rfl _ _ gb279 23 #[.int .i64 0, .int .i64 0, .int .i64 0, .string (⟨#[]⟩ : ByteArray), .string (⟨#[]⟩ : ByteArray)] (0, 0) _ rfl (by (with_reducible repeat (first | apply xN_ | apply xD_ | apply xA_)); refine blk_put (cs := #[.int .i64 0, .int .i64 0, .int .i64 0, .string (⟨#[]⟩ : ByteArray), .string (⟨#[]⟩ : ByteArray)]) ?_ 4 _ rfl; refine blk_put (cs := #[.int .i64 0, .int .i64 0, .int .i64 0, .string (⟨#[]⟩ : ByteArray), .string (⟨#[]⟩ : ByteArray)]) ?_ 3 _ rfl; refine blk_put (cs := #[.int .i64 0, .int .i64 0, .int .i64 0, .string (⟨#[]⟩ : ByteArray), .string (⟨#[]⟩ : ByteArray)]) ?_ 2 _ rfl; refine blk_put (cs := #[.int .i64 0, .int .i64 0, .int .i64 0, .string (⟨#[]⟩ : ByteArray), .string (⟨#[]⟩ : ByteArray)]) ?_ 1 _ rfl; refine blk_put (cs := #[.int .i64 0, .int .i64 0, .int .i64 0, .string (⟨#[]⟩ : ByteArray), .string (⟨#[]⟩ : ByteArray)]) ?_ 0 _ rfl; (with_reducible repeat (first | apply xN_ | apply xD_ | apply xA_)); exact BK279.out) Tryd.underlying23 rfl (by kernel_rfl)) rfl ?_
              exact ⟨by first | rfl | (simp [errW_none, errW_some] <;> rfl) | (simp [*, errW_none, errW_some] <;> rfl), by repeat (first | (with_reducible first | exact HB.out | apply yA_ | apply yN_ | apply yD_ | refine yS_ ?_ GE279.out | refine yS_ ?_ GE280.out) | exact HB.out)⟩
            ·rw [if_neg c39] at H
             exact absurd H (by simp)
           ·rw [if_neg c37] at H
            exact absurd H (by simp)
          ·rw [if_neg c35] at H
           exact absurd H (by simp)
         ·rw [if_neg c34] at H
          have c34b0 : ((t283.length : Int) == 3) = false := beq_eq_false_iff_ne.mpr c34
          have c34b1 : ((t283.length : Int) != 3) = true := bne_iff_ne.mpr c34
          simp only [Option.some.injEq, Prod.mk.injEq] at H
          obtain ⟨rfl, rfl, rfl, rfl, rfl, rfl⟩ := H
          go_wp2_with (first | ((with_reducible refine gate_callee (f := 28) rfl ?_); refine goesL_ (some 51) rfl rfl Tryd.func28 (by kernel_rfl) rfl #[.string x5_23, .int .u8 46] rfl (by (try simp only [List.map_toArray, List.map_cons, List.map_nil]); first | done | rfl) ?_; (with_reducible refine (armadaref05_Split.calls kj23 x5_23 46 t283 _ A33.out).mono ?_); rintro e w56 ⟨v284, rfl, ho0, hb⟩; refine ⟨_, rfl, ?_⟩; have n0_ := Aside0.mk (Kd.R_lower ho0 (below_size (by repeat (first | (with_reducible first | exact HB.out | apply yA_ | apply yN_ | apply yD_ | refine yS_ ?_ GE279.out | refine yS_ ?_ GE280.out) | exact HB.out)))); have n1_ := Aside0.mk (blk_below (g := gb279) (o := .cells #[.int .i64 0, .int .i64 0, .int .i64 0, .string (⟨#[]⟩ : ByteArray), .string (⟨#[]⟩ : ByteArray)] 23 (0, 0)) (by (with_reducible repeat (first | apply xN_ | apply xD_ | apply xA_)); exact BK279.out) hb); have n2_ := Aside0.mk (blk_below (g := gb280) (o := .cells #[.int .i64 0, .int .i64 0, .int .i64 0, .string x281003_23, .string x281004_13] 23 (0, 0)) (by (with_reducible repeat (first | apply xN_ | apply xD_ | apply xA_)); exact BK280.out) hb); have n3_ := Aside0.mk (below_step (by repeat (first | (with_reducible first | exact HB.out | apply yA_ | apply yN_ | apply yD_ | refine yS_ ?_ GE279.out | refine yS_ ?_ GE280.out) | exact HB.out)) hb); clear BK279; clear BK280; clear HB; have HO285 := n0_; have BK279 := n1_; have BK280 := n2_; have HB := n3_; clear n0_ n1_ n2_ n3_; (try clear hb); (try clear hb2); (try clear hk); (try clear hi); (try clear ho0); obtain ⟨Ao57, co57, eo57⟩ := Kd.R_slice HO285.out; subst eo57; have hnb58 := NB279_280.out; have hnc58 := NB280_279.out; have hcz59_0 : w56.cell? ⟨gb279, 0, none⟩ = some (.int .i64 0) := (xC_ BK279.out 0).trans rfl; have hcz59_1 : w56.cell? ⟨gb279, 1, none⟩ = some (.int .i64 0) := (xC_ BK279.out 1).trans rfl; have hcz59_2 : w56.cell? ⟨gb279, 2, none⟩ = some (.int .i64 0) := (xC_ BK279.out 2).trans rfl; have hcz59_3 : w56.cell? ⟨gb279, 3, none⟩ = some (.string (⟨#[]⟩ : ByteArray)) := (xC_ BK279.out 3).trans rfl; have hcz59_4 : w56.cell? ⟨gb279, 4, none⟩ = some (.string (⟨#[]⟩ : ByteArray)) := (xC_ BK279.out 4).trans rfl; have hfz59_0 := xF_ BK279.out 0; have hfz59_1 := xF_ BK279.out 1; have hfz59_2 := xF_ BK279.out 2; have hfz59_3 := xF_ BK279.out 3; have hfz59_4 := xF_ BK279.out 4))
          refine bodyPost_ret (results_ct rfl _ _ gb279 23 #[.int .i64 0, .int .i64 0, .int .i64 0, .string (⟨#[]⟩ : ByteArray), .string (⟨#[]⟩ : ByteArray)] (0, 0) _ rfl (by (with_reducible repeat (first | apply xN_ | apply xD_ | apply xA_)); refine blk_put (cs := #[.int .i64 0, .int .i64 0, .int .i64 0, .string (⟨#[]⟩ : ByteArray), .string (⟨#[]⟩ : ByteArray)]) ?_ 4 _ rfl; refine blk_put (cs := #[.int .i64 0, .int .i64 0, .int .i64 0, .string (⟨#[]⟩ : ByteArray), .string (⟨#[]⟩ : ByteArray)]) ?_ 3 _ rfl; refine blk_put (cs := #[.int .i64 0, .int .i64 0, .int .i64 0, .string (⟨#[]⟩ : ByteArray), .string (⟨#[]⟩ : ByteArray)]) ?_ 2 _ rfl; refine blk_put (cs := #[.int .i64 0, .int .i64 0, .int .i64 0, .string (⟨#[]⟩ : ByteArray), .string (⟨#[]⟩ : ByteArray)]) ?_ 1 _ rfl; refine blk_put (cs := #[.int .i64 0, .int .i64 0, .int .i64 0, .string (⟨#[]⟩ : ByteArray), .string (⟨#[]⟩ : ByteArray)]) ?_ 0 _ rfl; (with_reducible repeat (first | apply xN_ | apply xD_ | apply xA_)); exact BK279.out) Tryd.underlying23 rfl (by kernel_rfl)) rfl ?_
          exact ⟨by first | rfl | (simp [errW_none, errW_some] <;> rfl) | (simp [*, errW_none, errW_some] <;> rfl), by repeat (first | (with_reducible first | exact HB.out | apply yA_ | apply yN_ | apply yD_ | refine yS_ ?_ GE279.out | refine yS_ ?_ GE280.out) | exact HB.out)⟩
    ·rw [if_neg c12] at H
     exact absurd H (by simp)
def armadaref07_order.f (a0 : Int) (a1 : Int) : Option (Int) := if a0 < a1 then (some (-1)) else (if a0 > a1 then (some 1) else (some 0))
set_option maxHeartbeats 8000000 in
set_option maxRecDepth 100000 in
theorem armadaref07_order.calls (a0 : Int) (a1 : Int) (r : Int) (w : World) (h : armadaref07_order.f a0 a1 = some r) :
  Calls Tryd.prog 41 #[.int .i64 a0, .int .i64 a1] w fun e w' => e = .returned (.int .i64 r) ∧ Drawn0 w w' := by
 have H : (if a0 < a1 then (some (-1)) else (if a0 > a1 then (some 1) else (some 0))) = some r := h
 clear h
 by_cases c3 : a0 < a1
 ·rw [if_pos c3] at H
  have c3b0 : decide (a0 < a1) = true := decide_eq_true c3
  clear c3
  obtain rfl := Option.some.inj H
  go_enter Tryd.func41, Tryd.ntmps41
  go_wp2
  go_ret
  exact ⟨by first | rfl | (simp; done) | (simp [*]; done), by repeat (first | exact Drawn0.refl _ | apply Drawn0.step)⟩
 ·rw [if_neg c3] at H
  have c3b0 : decide (a0 < a1) = false := decide_eq_false c3
  clear c3
  by_cases c4 : a0 > a1
  ·rw [if_pos c4] at H
   have c4b0 : decide (a1 < a0) = true := decide_eq_true c4
   clear c4
   obtain rfl := Option.some.inj H
   go_enter Tryd.func41, Tryd.ntmps41
   go_wp2
   go_ret
   exact ⟨by first | rfl | (simp; done) | (simp [*]; done), by repeat (first | exact Drawn0.refl _ | apply Drawn0.step)⟩
  ·rw [if_neg c4] at H
   have c4b0 : decide (a1 < a0) = false := decide_eq_false c4
   clear c4
   obtain rfl := Option.some.inj H
   go_enter Tryd.func41, Tryd.ntmps41
   go_wp2
   go_ret
   exact ⟨by first | rfl | (simp; done) | (simp [*]; done), by repeat (first | exact Drawn0.refl _ | apply Drawn0.step)⟩
def armadaref07_one.f (a0 : Bool) : Option (Int) := if a0 = true then (some 1) else (some 0)
set_option maxHeartbeats 8000000 in
set_option maxRecDepth 100000 in
theorem armadaref07_one.calls (a0 : Bool) (r : Int) (w : World) (h : armadaref07_one.f a0 = some r) :
  Calls Tryd.prog 56 #[.bool a0] w fun e w' => e = .returned (.int .i64 r) ∧ Drawn0 w w' := by
 have H : (if a0 = true then (some 1) else (some 0)) = some r := h
 clear h
 by_cases c2 : a0 = true
 ·subst c2
  have H1 : (some 1) = some r := by rw [if_pos rfl] at H; exact H
  clear H
  have H := H1
  clear H1
  obtain rfl := Option.some.inj H
  go_enter Tryd.func56, Tryd.ntmps56
  go_wp2
  go_ret
  exact ⟨by first | rfl | (simp; done) | (simp [*]; done), by repeat (first | exact Drawn0.refl _ | apply Drawn0.step)⟩
 ·replace c2 := Bool.eq_false_iff.mpr c2
  subst c2
  have H1 : (some 0) = some r := by rw [if_neg (show ¬ (false = true) by decide)] at H; exact H
  clear H
  have H := H1
  clear H1
  obtain rfl := Option.some.inj H
  go_enter Tryd.func56, Tryd.ntmps56
  go_wp2
  go_ret
  exact ⟨by first | rfl | (simp; done) | (simp [*]; done), by repeat (first | exact Drawn0.refl _ | apply Drawn0.step)⟩
end Go.Proofs.YthoiepkejhhcoaaDoor.P
