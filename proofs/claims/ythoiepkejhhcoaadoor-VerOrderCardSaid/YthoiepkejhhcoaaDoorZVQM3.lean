/- Printed functions, merged. -/
import Derived.Test.YthoiepkejhhcoaaDoorZVQM0
import Derived.Test.YthoiepkejhhcoaaDoorZVQVLaid
import Derived.Test.YthoiepkejhhcoaaDoorZVQVCheck
import Derived.Test.YthoiepkejhhcoaaDoorZVQVGiven
import Derived.Test.YthoiepkejhhcoaaDoorZVQAl
namespace Go.Proofs.YthoiepkejhhcoaaDoor.P
open Go.RowKit Go.Proofs.YthoiepkejhhcoaaDoorW.PrintWords Go.Proofs.YthoiepkejhhcoaaDoorW.PrintLast Go.Proofs.YthoiepkejhhcoaaDoorW.PrintMore
attribute [local go_sem] max2_int min2_int max_two min_two max_three min_three max_four min_four   -- for this text's walks alone
set_option linter.unusedVariables false
set_option linter.unusedSimpArgs false
def ver_Text.f (a0_0 : Int) (a0_1 : Int) (a0_2 : Int) (a0_3 : ByteArray) (a0_4 : ByteArray) : Option (ByteArray) := (ver_Check.f a0_0 a0_1 a0_2 a0_3 a0_4).bind fun t124 => (if t124 = true then ((strconv_Itoa.f a0_0).bind fun t125 => (if 1 + t125.size ≤ 9223372036854775807 then (if ((⟨#[118]⟩ : ByteArray) ++ t125).size + 1 ≤ 9223372036854775807 then ((strconv_Itoa.f a0_1).bind fun t126 => (if (((⟨#[118]⟩ : ByteArray) ++ t125) ++ (⟨#[46]⟩ : ByteArray)).size + t126.size ≤ 9223372036854775807 then (if ((((⟨#[118]⟩ : ByteArray) ++ t125) ++ (⟨#[46]⟩ : ByteArray)) ++ t126).size + 1 ≤ 9223372036854775807 then ((strconv_Itoa.f a0_2).bind fun t127 => (if (((((⟨#[118]⟩ : ByteArray) ++ t125) ++ (⟨#[46]⟩ : ByteArray)) ++ t126) ++ (⟨#[46]⟩ : ByteArray)).size + t127.size ≤ 9223372036854775807 then (if a0_3.toList = ([] : List UInt8) then (if a0_4.toList = ([] : List UInt8) then (some ((((((⟨#[118]⟩ : ByteArray) ++ t125) ++ (⟨#[46]⟩ : ByteArray)) ++ t126) ++ (⟨#[46]⟩ : ByteArray)) ++ t127)) else (if 1 + a0_4.size ≤ 9223372036854775807 then (if ((((((⟨#[118]⟩ : ByteArray) ++ t125) ++ (⟨#[46]⟩ : ByteArray)) ++ t126) ++ (⟨#[46]⟩ : ByteArray)) ++ t127).size + ((⟨#[43]⟩ : ByteArray) ++ a0_4).size ≤ 9223372036854775807 then (some (((((((⟨#[118]⟩ : ByteArray) ++ t125) ++ (⟨#[46]⟩ : ByteArray)) ++ t126) ++ (⟨#[46]⟩ : ByteArray)) ++ t127) ++ ((⟨#[43]⟩ : ByteArray) ++ a0_4))) else (none)) else (none))) else (if 1 + a0_3.size ≤ 9223372036854775807 then (if ((((((⟨#[118]⟩ : ByteArray) ++ t125) ++ (⟨#[46]⟩ : ByteArray)) ++ t126) ++ (⟨#[46]⟩ : ByteArray)) ++ t127).size + ((⟨#[45]⟩ : ByteArray) ++ a0_3).size ≤ 9223372036854775807 then (if a0_4.toList = ([] : List UInt8) then (some (((((((⟨#[118]⟩ : ByteArray) ++ t125) ++ (⟨#[46]⟩ : ByteArray)) ++ t126) ++ (⟨#[46]⟩ : ByteArray)) ++ t127) ++ ((⟨#[45]⟩ : ByteArray) ++ a0_3))) else (if 1 + a0_4.size ≤ 9223372036854775807 then (if (((((((⟨#[118]⟩ : ByteArray) ++ t125) ++ (⟨#[46]⟩ : ByteArray)) ++ t126) ++ (⟨#[46]⟩ : ByteArray)) ++ t127) ++ ((⟨#[45]⟩ : ByteArray) ++ a0_3)).size + ((⟨#[43]⟩ : ByteArray) ++ a0_4).size ≤ 9223372036854775807 then (some ((((((((⟨#[118]⟩ : ByteArray) ++ t125) ++ (⟨#[46]⟩ : ByteArray)) ++ t126) ++ (⟨#[46]⟩ : ByteArray)) ++ t127) ++ ((⟨#[45]⟩ : ByteArray) ++ a0_3)) ++ ((⟨#[43]⟩ : ByteArray) ++ a0_4))) else (none)) else (none))) else (none)) else (none))) else (none))) else (none)) else (none))) else (none)) else (none))) else (some (⟨#[]⟩ : ByteArray)))
def ver_Text.T3 : Bool × List (List Nat × List Nat) := (true, [([], []), ([0], [0]), ([1], [1]), ([2], [2]), ([3], [3]), ([], []), ([5], [5]), ([6, 2], [6]), ([4, 7], [4, 7]), ([8], [8]), ([], []), ([10], [10]), ([11, 7], [11]), ([9, 12], [9, 12]), ([13, 12, 0, 1, 2, 3, 4, 5, 6, 7, 8, 9, 10, 11, 12, 13], [13])])
def ver_Text.B3 : List Nat := [0, 1, 3, 7, 15, 0, 32, 103, 255, 511, 0, 1024, 3303, 8191, 16383]
theorem ver_Text.tab3 : rtab .any (opsOf Tryd.f15 3) = ver_Text.T3 := by kernel_rfl
theorem ver_Text.bits3 : waitsOk ver_Text.T3.2 ver_Text.B3 = true := by kernel_rfl
set_option maxHeartbeats 8000000 in
set_option maxRecDepth 100000 in
theorem ver_Text.calls (a0_0 : Int) (a0_1 : Int) (a0_2 : Int) (a0_3 : ByteArray) (a0_4 : ByteArray) (r : ByteArray) (w : World) (h : ver_Text.f a0_0 a0_1 a0_2 a0_3 a0_4 = some r) (LW0 : LaidW w) :
  Calls Tryd.prog 15 #[.agg #[.int .i64 a0_0, .int .i64 a0_1, .int .i64 a0_2, .string a0_3, .string a0_4]] w fun e w' => e = .returned (.string r) ∧ Below w.heap.size w w' := by
 have LW := Aside0.mk LW0
 clear LW0
 have hu23 := Tryd.underlying23
 have HB := Aside0.mk (Below.refl w.heap.size w)
 have H : ((ver_Check.f a0_0 a0_1 a0_2 a0_3 a0_4).bind fun t124 => (if t124 = true then ((strconv_Itoa.f a0_0).bind fun t125 => (if 1 + t125.size ≤ 9223372036854775807 then (if ((⟨#[118]⟩ : ByteArray) ++ t125).size + 1 ≤ 9223372036854775807 then ((strconv_Itoa.f a0_1).bind fun t126 => (if (((⟨#[118]⟩ : ByteArray) ++ t125) ++ (⟨#[46]⟩ : ByteArray)).size + t126.size ≤ 9223372036854775807 then (if ((((⟨#[118]⟩ : ByteArray) ++ t125) ++ (⟨#[46]⟩ : ByteArray)) ++ t126).size + 1 ≤ 9223372036854775807 then ((strconv_Itoa.f a0_2).bind fun t127 => (if (((((⟨#[118]⟩ : ByteArray) ++ t125) ++ (⟨#[46]⟩ : ByteArray)) ++ t126) ++ (⟨#[46]⟩ : ByteArray)).size + t127.size ≤ 9223372036854775807 then (if a0_3.toList = ([] : List UInt8) then (if a0_4.toList = ([] : List UInt8) then (some ((((((⟨#[118]⟩ : ByteArray) ++ t125) ++ (⟨#[46]⟩ : ByteArray)) ++ t126) ++ (⟨#[46]⟩ : ByteArray)) ++ t127)) else (if 1 + a0_4.size ≤ 9223372036854775807 then (if ((((((⟨#[118]⟩ : ByteArray) ++ t125) ++ (⟨#[46]⟩ : ByteArray)) ++ t126) ++ (⟨#[46]⟩ : ByteArray)) ++ t127).size + ((⟨#[43]⟩ : ByteArray) ++ a0_4).size ≤ 9223372036854775807 then (some (((((((⟨#[118]⟩ : ByteArray) ++ t125) ++ (⟨#[46]⟩ : ByteArray)) ++ t126) ++ (⟨#[46]⟩ : ByteArray)) ++ t127) ++ ((⟨#[43]⟩ : ByteArray) ++ a0_4))) else (none)) else (none))) else (if 1 + a0_3.size ≤ 9223372036854775807 then (if ((((((⟨#[118]⟩ : ByteArray) ++ t125) ++ (⟨#[46]⟩ : ByteArray)) ++ t126) ++ (⟨#[46]⟩ : ByteArray)) ++ t127).size + ((⟨#[45]⟩ : ByteArray) ++ a0_3).size ≤ 9223372036854775807 then (if a0_4.toList = ([] : List UInt8) then (some (((((((⟨#[118]⟩ : ByteArray) ++ t125) ++ (⟨#[46]⟩ : ByteArray)) ++ t126) ++ (⟨#[46]⟩ : ByteArray)) ++ t127) ++ ((⟨#[45]⟩ : ByteArray) ++ a0_3))) else (if 1 + a0_4.size ≤ 9223372036854775807 then (if (((((((⟨#[118]⟩ : ByteArray) ++ t125) ++ (⟨#[46]⟩ : ByteArray)) ++ t126) ++ (⟨#[46]⟩ : ByteArray)) ++ t127) ++ ((⟨#[45]⟩ : ByteArray) ++ a0_3)).size + ((⟨#[43]⟩ : ByteArray) ++ a0_4).size ≤ 9223372036854775807 then (some ((((((((⟨#[118]⟩ : ByteArray) ++ t125) ++ (⟨#[46]⟩ : ByteArray)) ++ t126) ++ (⟨#[46]⟩ : ByteArray)) ++ t127) ++ ((⟨#[45]⟩ : ByteArray) ++ a0_3)) ++ ((⟨#[43]⟩ : ByteArray) ++ a0_4))) else (none)) else (none))) else (none)) else (none))) else (none))) else (none)) else (none))) else (none)) else (none))) else (some (⟨#[]⟩ : ByteArray)))) = some r := h
 clear h
 replace H := Option.bind_eq_some_iff.mp H
 obtain ⟨t124, A20, H⟩ := H
 replace H : (if t124 = true then ((strconv_Itoa.f a0_0).bind fun t125 => (if 1 + t125.size ≤ 9223372036854775807 then (if ((⟨#[118]⟩ : ByteArray) ++ t125).size + 1 ≤ 9223372036854775807 then ((strconv_Itoa.f a0_1).bind fun t126 => (if (((⟨#[118]⟩ : ByteArray) ++ t125) ++ (⟨#[46]⟩ : ByteArray)).size + t126.size ≤ 9223372036854775807 then (if ((((⟨#[118]⟩ : ByteArray) ++ t125) ++ (⟨#[46]⟩ : ByteArray)) ++ t126).size + 1 ≤ 9223372036854775807 then ((strconv_Itoa.f a0_2).bind fun t127 => (if (((((⟨#[118]⟩ : ByteArray) ++ t125) ++ (⟨#[46]⟩ : ByteArray)) ++ t126) ++ (⟨#[46]⟩ : ByteArray)).size + t127.size ≤ 9223372036854775807 then (if a0_3.toList = ([] : List UInt8) then (if a0_4.toList = ([] : List UInt8) then (some ((((((⟨#[118]⟩ : ByteArray) ++ t125) ++ (⟨#[46]⟩ : ByteArray)) ++ t126) ++ (⟨#[46]⟩ : ByteArray)) ++ t127)) else (if 1 + a0_4.size ≤ 9223372036854775807 then (if ((((((⟨#[118]⟩ : ByteArray) ++ t125) ++ (⟨#[46]⟩ : ByteArray)) ++ t126) ++ (⟨#[46]⟩ : ByteArray)) ++ t127).size + ((⟨#[43]⟩ : ByteArray) ++ a0_4).size ≤ 9223372036854775807 then (some (((((((⟨#[118]⟩ : ByteArray) ++ t125) ++ (⟨#[46]⟩ : ByteArray)) ++ t126) ++ (⟨#[46]⟩ : ByteArray)) ++ t127) ++ ((⟨#[43]⟩ : ByteArray) ++ a0_4))) else (none)) else (none))) else (if 1 + a0_3.size ≤ 9223372036854775807 then (if ((((((⟨#[118]⟩ : ByteArray) ++ t125) ++ (⟨#[46]⟩ : ByteArray)) ++ t126) ++ (⟨#[46]⟩ : ByteArray)) ++ t127).size + ((⟨#[45]⟩ : ByteArray) ++ a0_3).size ≤ 9223372036854775807 then (if a0_4.toList = ([] : List UInt8) then (some (((((((⟨#[118]⟩ : ByteArray) ++ t125) ++ (⟨#[46]⟩ : ByteArray)) ++ t126) ++ (⟨#[46]⟩ : ByteArray)) ++ t127) ++ ((⟨#[45]⟩ : ByteArray) ++ a0_3))) else (if 1 + a0_4.size ≤ 9223372036854775807 then (if (((((((⟨#[118]⟩ : ByteArray) ++ t125) ++ (⟨#[46]⟩ : ByteArray)) ++ t126) ++ (⟨#[46]⟩ : ByteArray)) ++ t127) ++ ((⟨#[45]⟩ : ByteArray) ++ a0_3)).size + ((⟨#[43]⟩ : ByteArray) ++ a0_4).size ≤ 9223372036854775807 then (some ((((((((⟨#[118]⟩ : ByteArray) ++ t125) ++ (⟨#[46]⟩ : ByteArray)) ++ t126) ++ (⟨#[46]⟩ : ByteArray)) ++ t127) ++ ((⟨#[45]⟩ : ByteArray) ++ a0_3)) ++ ((⟨#[43]⟩ : ByteArray) ++ a0_4))) else (none)) else (none))) else (none)) else (none))) else (none))) else (none)) else (none))) else (none)) else (none))) else (some (⟨#[]⟩ : ByteArray))) = some r := H
 have A2 := Aside0.mk A20
 clear A20
 by_cases c3 : t124 = true
 ·subst c3
  have H1 : ((strconv_Itoa.f a0_0).bind fun t125 => (if 1 + t125.size ≤ 9223372036854775807 then (if ((⟨#[118]⟩ : ByteArray) ++ t125).size + 1 ≤ 9223372036854775807 then ((strconv_Itoa.f a0_1).bind fun t126 => (if (((⟨#[118]⟩ : ByteArray) ++ t125) ++ (⟨#[46]⟩ : ByteArray)).size + t126.size ≤ 9223372036854775807 then (if ((((⟨#[118]⟩ : ByteArray) ++ t125) ++ (⟨#[46]⟩ : ByteArray)) ++ t126).size + 1 ≤ 9223372036854775807 then ((strconv_Itoa.f a0_2).bind fun t127 => (if (((((⟨#[118]⟩ : ByteArray) ++ t125) ++ (⟨#[46]⟩ : ByteArray)) ++ t126) ++ (⟨#[46]⟩ : ByteArray)).size + t127.size ≤ 9223372036854775807 then (if a0_3.toList = ([] : List UInt8) then (if a0_4.toList = ([] : List UInt8) then (some ((((((⟨#[118]⟩ : ByteArray) ++ t125) ++ (⟨#[46]⟩ : ByteArray)) ++ t126) ++ (⟨#[46]⟩ : ByteArray)) ++ t127)) else (if 1 + a0_4.size ≤ 9223372036854775807 then (if ((((((⟨#[118]⟩ : ByteArray) ++ t125) ++ (⟨#[46]⟩ : ByteArray)) ++ t126) ++ (⟨#[46]⟩ : ByteArray)) ++ t127).size + ((⟨#[43]⟩ : ByteArray) ++ a0_4).size ≤ 9223372036854775807 then (some (((((((⟨#[118]⟩ : ByteArray) ++ t125) ++ (⟨#[46]⟩ : ByteArray)) ++ t126) ++ (⟨#[46]⟩ : ByteArray)) ++ t127) ++ ((⟨#[43]⟩ : ByteArray) ++ a0_4))) else (none)) else (none))) else (if 1 + a0_3.size ≤ 9223372036854775807 then (if ((((((⟨#[118]⟩ : ByteArray) ++ t125) ++ (⟨#[46]⟩ : ByteArray)) ++ t126) ++ (⟨#[46]⟩ : ByteArray)) ++ t127).size + ((⟨#[45]⟩ : ByteArray) ++ a0_3).size ≤ 9223372036854775807 then (if a0_4.toList = ([] : List UInt8) then (some (((((((⟨#[118]⟩ : ByteArray) ++ t125) ++ (⟨#[46]⟩ : ByteArray)) ++ t126) ++ (⟨#[46]⟩ : ByteArray)) ++ t127) ++ ((⟨#[45]⟩ : ByteArray) ++ a0_3))) else (if 1 + a0_4.size ≤ 9223372036854775807 then (if (((((((⟨#[118]⟩ : ByteArray) ++ t125) ++ (⟨#[46]⟩ : ByteArray)) ++ t126) ++ (⟨#[46]⟩ : ByteArray)) ++ t127) ++ ((⟨#[45]⟩ : ByteArray) ++ a0_3)).size + ((⟨#[43]⟩ : ByteArray) ++ a0_4).size ≤ 9223372036854775807 then (some ((((((((⟨#[118]⟩ : ByteArray) ++ t125) ++ (⟨#[46]⟩ : ByteArray)) ++ t126) ++ (⟨#[46]⟩ : ByteArray)) ++ t127) ++ ((⟨#[45]⟩ : ByteArray) ++ a0_3)) ++ ((⟨#[43]⟩ : ByteArray) ++ a0_4))) else (none)) else (none))) else (none)) else (none))) else (none))) else (none)) else (none))) else (none)) else (none))) = some r := by rw [if_pos rfl] at H; exact H
  clear H
  have H := H1
  clear H1
  replace H := Option.bind_eq_some_iff.mp H
  obtain ⟨t125, A40, H⟩ := H
  replace H : (if 1 + t125.size ≤ 9223372036854775807 then (if ((⟨#[118]⟩ : ByteArray) ++ t125).size + 1 ≤ 9223372036854775807 then ((strconv_Itoa.f a0_1).bind fun t126 => (if (((⟨#[118]⟩ : ByteArray) ++ t125) ++ (⟨#[46]⟩ : ByteArray)).size + t126.size ≤ 9223372036854775807 then (if ((((⟨#[118]⟩ : ByteArray) ++ t125) ++ (⟨#[46]⟩ : ByteArray)) ++ t126).size + 1 ≤ 9223372036854775807 then ((strconv_Itoa.f a0_2).bind fun t127 => (if (((((⟨#[118]⟩ : ByteArray) ++ t125) ++ (⟨#[46]⟩ : ByteArray)) ++ t126) ++ (⟨#[46]⟩ : ByteArray)).size + t127.size ≤ 9223372036854775807 then (if a0_3.toList = ([] : List UInt8) then (if a0_4.toList = ([] : List UInt8) then (some ((((((⟨#[118]⟩ : ByteArray) ++ t125) ++ (⟨#[46]⟩ : ByteArray)) ++ t126) ++ (⟨#[46]⟩ : ByteArray)) ++ t127)) else (if 1 + a0_4.size ≤ 9223372036854775807 then (if ((((((⟨#[118]⟩ : ByteArray) ++ t125) ++ (⟨#[46]⟩ : ByteArray)) ++ t126) ++ (⟨#[46]⟩ : ByteArray)) ++ t127).size + ((⟨#[43]⟩ : ByteArray) ++ a0_4).size ≤ 9223372036854775807 then (some (((((((⟨#[118]⟩ : ByteArray) ++ t125) ++ (⟨#[46]⟩ : ByteArray)) ++ t126) ++ (⟨#[46]⟩ : ByteArray)) ++ t127) ++ ((⟨#[43]⟩ : ByteArray) ++ a0_4))) else (none)) else (none))) else (if 1 + a0_3.size ≤ 9223372036854775807 then (if ((((((⟨#[118]⟩ : ByteArray) ++ t125) ++ (⟨#[46]⟩ : ByteArray)) ++ t126) ++ (⟨#[46]⟩ : ByteArray)) ++ t127).size + ((⟨#[45]⟩ : ByteArray) ++ a0_3).size ≤ 9223372036854775807 then (if a0_4.toList = ([] : List UInt8) then (some (((((((⟨#[118]⟩ : ByteArray) ++ t125) ++ (⟨#[46]⟩ : ByteArray)) ++ t126) ++ (⟨#[46]⟩ : ByteArray)) ++ t127) ++ ((⟨#[45]⟩ : ByteArray) ++ a0_3))) else (if 1 + a0_4.size ≤ 9223372036854775807 then (if (((((((⟨#[118]⟩ : ByteArray) ++ t125) ++ (⟨#[46]⟩ : ByteArray)) ++ t126) ++ (⟨#[46]⟩ : ByteArray)) ++ t127) ++ ((⟨#[45]⟩ : ByteArray) ++ a0_3)).size + ((⟨#[43]⟩ : ByteArray) ++ a0_4).size ≤ 9223372036854775807 then (some ((((((((⟨#[118]⟩ : ByteArray) ++ t125) ++ (⟨#[46]⟩ : ByteArray)) ++ t126) ++ (⟨#[46]⟩ : ByteArray)) ++ t127) ++ ((⟨#[45]⟩ : ByteArray) ++ a0_3)) ++ ((⟨#[43]⟩ : ByteArray) ++ a0_4))) else (none)) else (none))) else (none)) else (none))) else (none))) else (none)) else (none))) else (none)) else (none)) = some r := H
  have A4 := Aside0.mk A40
  clear A40
  by_cases c5 : 1 + t125.size ≤ 9223372036854775807
  ·rw [if_pos c5] at H
   have c5b0 := eq_true c5
   have c5b1 : decide (1 + t125.size ≤ 9223372036854775807) = true := decide_eq_true c5
   try have c5b2 : (9223372036854775807 < 1 + t125.size) = False := eq_false (Nat.not_lt.2 c5)
   by_cases c6 : ((⟨#[118]⟩ : ByteArray) ++ t125).size + 1 ≤ 9223372036854775807
   ·rw [if_pos c6] at H
    have c6b0 := eq_true c6
    have c6b1 : decide (((⟨#[118]⟩ : ByteArray) ++ t125).size + 1 ≤ 9223372036854775807) = true := decide_eq_true c6
    try have c6b2 : (9223372036854775807 < ((⟨#[118]⟩ : ByteArray) ++ t125).size + 1) = False := eq_false (Nat.not_lt.2 c6)
    (try (have c6b3 := c6; simp only [show (⟨#[118]⟩ : ByteArray).size = 1 from rfl, ByteArray.size_append, ByteArray.size_extract] at c6b3; have c6b4 := eq_true c6b3; have c6b5 := decide_eq_true c6b3; have c6b6 := eq_false (Nat.not_lt.2 c6b3)))
    replace H := Option.bind_eq_some_iff.mp H
    obtain ⟨t126, A70, H⟩ := H
    replace H : (if (((⟨#[118]⟩ : ByteArray) ++ t125) ++ (⟨#[46]⟩ : ByteArray)).size + t126.size ≤ 9223372036854775807 then (if ((((⟨#[118]⟩ : ByteArray) ++ t125) ++ (⟨#[46]⟩ : ByteArray)) ++ t126).size + 1 ≤ 9223372036854775807 then ((strconv_Itoa.f a0_2).bind fun t127 => (if (((((⟨#[118]⟩ : ByteArray) ++ t125) ++ (⟨#[46]⟩ : ByteArray)) ++ t126) ++ (⟨#[46]⟩ : ByteArray)).size + t127.size ≤ 9223372036854775807 then (if a0_3.toList = ([] : List UInt8) then (if a0_4.toList = ([] : List UInt8) then (some ((((((⟨#[118]⟩ : ByteArray) ++ t125) ++ (⟨#[46]⟩ : ByteArray)) ++ t126) ++ (⟨#[46]⟩ : ByteArray)) ++ t127)) else (if 1 + a0_4.size ≤ 9223372036854775807 then (if ((((((⟨#[118]⟩ : ByteArray) ++ t125) ++ (⟨#[46]⟩ : ByteArray)) ++ t126) ++ (⟨#[46]⟩ : ByteArray)) ++ t127).size + ((⟨#[43]⟩ : ByteArray) ++ a0_4).size ≤ 9223372036854775807 then (some (((((((⟨#[118]⟩ : ByteArray) ++ t125) ++ (⟨#[46]⟩ : ByteArray)) ++ t126) ++ (⟨#[46]⟩ : ByteArray)) ++ t127) ++ ((⟨#[43]⟩ : ByteArray) ++ a0_4))) else (none)) else (none))) else (if 1 + a0_3.size ≤ 9223372036854775807 then (if ((((((⟨#[118]⟩ : ByteArray) ++ t125) ++ (⟨#[46]⟩ : ByteArray)) ++ t126) ++ (⟨#[46]⟩ : ByteArray)) ++ t127).size + ((⟨#[45]⟩ : ByteArray) ++ a0_3).size ≤ 9223372036854775807 then (if a0_4.toList = ([] : List UInt8) then (some (((((((⟨#[118]⟩ : ByteArray) ++ t125) ++ (⟨#[46]⟩ : ByteArray)) ++ t126) ++ (⟨#[46]⟩ : ByteArray)) ++ t127) ++ ((⟨#[45]⟩ : ByteArray) ++ a0_3))) else (if 1 + a0_4.size ≤ 9223372036854775807 then (if (((((((⟨#[118]⟩ : ByteArray) ++ t125) ++ (⟨#[46]⟩ : ByteArray)) ++ t126) ++ (⟨#[46]⟩ : ByteArray)) ++ t127) ++ ((⟨#[45]⟩ : ByteArray) ++ a0_3)).size + ((⟨#[43]⟩ : ByteArray) ++ a0_4).size ≤ 9223372036854775807 then (some ((((((((⟨#[118]⟩ : ByteArray) ++ t125) ++ (⟨#[46]⟩ : ByteArray)) ++ t126) ++ (⟨#[46]⟩ : ByteArray)) ++ t127) ++ ((⟨#[45]⟩ : ByteArray) ++ a0_3)) ++ ((⟨#[43]⟩ : ByteArray) ++ a0_4))) else (none)) else (none))) else (none)) else (none))) else (none))) else (none)) else (none)) = some r := H
    have A7 := Aside0.mk A70
    clear A70
    by_cases c8 : (((⟨#[118]⟩ : ByteArray) ++ t125) ++ (⟨#[46]⟩ : ByteArray)).size + t126.size ≤ 9223372036854775807
    ·rw [if_pos c8] at H
     have c8b0 := eq_true c8
     have c8b1 : decide ((((⟨#[118]⟩ : ByteArray) ++ t125) ++ (⟨#[46]⟩ : ByteArray)).size + t126.size ≤ 9223372036854775807) = true := decide_eq_true c8
     try have c8b2 : (9223372036854775807 < (((⟨#[118]⟩ : ByteArray) ++ t125) ++ (⟨#[46]⟩ : ByteArray)).size + t126.size) = False := eq_false (Nat.not_lt.2 c8)
     (try (have c8b3 := c8; simp only [show (⟨#[118]⟩ : ByteArray).size = 1 from rfl, show (⟨#[46]⟩ : ByteArray).size = 1 from rfl, ByteArray.size_append, ByteArray.size_extract] at c8b3; have c8b4 := eq_true c8b3; have c8b5 := decide_eq_true c8b3; have c8b6 := eq_false (Nat.not_lt.2 c8b3)))
     by_cases c9 : ((((⟨#[118]⟩ : ByteArray) ++ t125) ++ (⟨#[46]⟩ : ByteArray)) ++ t126).size + 1 ≤ 9223372036854775807
     ·rw [if_pos c9] at H
      have c9b0 := eq_true c9
      have c9b1 : decide (((((⟨#[118]⟩ : ByteArray) ++ t125) ++ (⟨#[46]⟩ : ByteArray)) ++ t126).size + 1 ≤ 9223372036854775807) = true := decide_eq_true c9
      try have c9b2 : (9223372036854775807 < ((((⟨#[118]⟩ : ByteArray) ++ t125) ++ (⟨#[46]⟩ : ByteArray)) ++ t126).size + 1) = False := eq_false (Nat.not_lt.2 c9)
      (try (have c9b3 := c9; simp only [show (⟨#[118]⟩ : ByteArray).size = 1 from rfl, show (⟨#[46]⟩ : ByteArray).size = 1 from rfl, ByteArray.size_append, ByteArray.size_extract] at c9b3; have c9b4 := eq_true c9b3; have c9b5 := decide_eq_true c9b3; have c9b6 := eq_false (Nat.not_lt.2 c9b3)))
      replace H := Option.bind_eq_some_iff.mp H
      obtain ⟨t127, A100, H⟩ := H
      replace H : (if (((((⟨#[118]⟩ : ByteArray) ++ t125) ++ (⟨#[46]⟩ : ByteArray)) ++ t126) ++ (⟨#[46]⟩ : ByteArray)).size + t127.size ≤ 9223372036854775807 then (if a0_3.toList = ([] : List UInt8) then (if a0_4.toList = ([] : List UInt8) then (some ((((((⟨#[118]⟩ : ByteArray) ++ t125) ++ (⟨#[46]⟩ : ByteArray)) ++ t126) ++ (⟨#[46]⟩ : ByteArray)) ++ t127)) else (if 1 + a0_4.size ≤ 9223372036854775807 then (if ((((((⟨#[118]⟩ : ByteArray) ++ t125) ++ (⟨#[46]⟩ : ByteArray)) ++ t126) ++ (⟨#[46]⟩ : ByteArray)) ++ t127).size + ((⟨#[43]⟩ : ByteArray) ++ a0_4).size ≤ 9223372036854775807 then (some (((((((⟨#[118]⟩ : ByteArray) ++ t125) ++ (⟨#[46]⟩ : ByteArray)) ++ t126) ++ (⟨#[46]⟩ : ByteArray)) ++ t127) ++ ((⟨#[43]⟩ : ByteArray) ++ a0_4))) else (none)) else (none))) else (if 1 + a0_3.size ≤ 9223372036854775807 then (if ((((((⟨#[118]⟩ : ByteArray) ++ t125) ++ (⟨#[46]⟩ : ByteArray)) ++ t126) ++ (⟨#[46]⟩ : ByteArray)) ++ t127).size + ((⟨#[45]⟩ : ByteArray) ++ a0_3).size ≤ 9223372036854775807 then (if a0_4.toList = ([] : List UInt8) then (some (((((((⟨#[118]⟩ : ByteArray) ++ t125) ++ (⟨#[46]⟩ : ByteArray)) ++ t126) ++ (⟨#[46]⟩ : ByteArray)) ++ t127) ++ ((⟨#[45]⟩ : ByteArray) ++ a0_3))) else (if 1 + a0_4.size ≤ 9223372036854775807 then (if (((((((⟨#[118]⟩ : ByteArray) ++ t125) ++ (⟨#[46]⟩ : ByteArray)) ++ t126) ++ (⟨#[46]⟩ : ByteArray)) ++ t127) ++ ((⟨#[45]⟩ : ByteArray) ++ a0_3)).size + ((⟨#[43]⟩ : ByteArray) ++ a0_4).size ≤ 9223372036854775807 then (some ((((((((⟨#[118]⟩ : ByteArray) ++ t125) ++ (⟨#[46]⟩ : ByteArray)) ++ t126) ++ (⟨#[46]⟩ : ByteArray)) ++ t127) ++ ((⟨#[45]⟩ : ByteArray) ++ a0_3)) ++ ((⟨#[43]⟩ : ByteArray) ++ a0_4))) else (none)) else (none))) else (none)) else (none))) else (none)) = some r := H
      have A10 := Aside0.mk A100
      clear A100
      by_cases c11 : (((((⟨#[118]⟩ : ByteArray) ++ t125) ++ (⟨#[46]⟩ : ByteArray)) ++ t126) ++ (⟨#[46]⟩ : ByteArray)).size + t127.size ≤ 9223372036854775807
      ·rw [if_pos c11] at H
       have c11b0 := eq_true c11
       have c11b1 : decide ((((((⟨#[118]⟩ : ByteArray) ++ t125) ++ (⟨#[46]⟩ : ByteArray)) ++ t126) ++ (⟨#[46]⟩ : ByteArray)).size + t127.size ≤ 9223372036854775807) = true := decide_eq_true c11
       try have c11b2 : (9223372036854775807 < (((((⟨#[118]⟩ : ByteArray) ++ t125) ++ (⟨#[46]⟩ : ByteArray)) ++ t126) ++ (⟨#[46]⟩ : ByteArray)).size + t127.size) = False := eq_false (Nat.not_lt.2 c11)
       (try (have c11b3 := c11; simp only [show (⟨#[118]⟩ : ByteArray).size = 1 from rfl, show (⟨#[46]⟩ : ByteArray).size = 1 from rfl, ByteArray.size_append, ByteArray.size_extract] at c11b3; have c11b4 := eq_true c11b3; have c11b5 := decide_eq_true c11b3; have c11b6 := eq_false (Nat.not_lt.2 c11b3)))
       by_cases c12 : a0_3.toList = ([] : List UInt8)
       ·rw [if_pos c12] at H
        have c12b0 : (a0_3.toList == ([] : List UInt8)) = true := beq_iff_eq.mpr c12
        have c12b1 : (a0_3.toList != ([] : List UInt8)) = false := bne_eq_false_iff_eq.mpr c12
        clear c12
        by_cases c13 : a0_4.toList = ([] : List UInt8)
        ·rw [if_pos c13] at H
         have c13b0 : (a0_4.toList == ([] : List UInt8)) = true := beq_iff_eq.mpr c13
         have c13b1 : (a0_4.toList != ([] : List UInt8)) = false := bne_eq_false_iff_eq.mpr c13
         clear c13
         obtain rfl := Option.some.inj H
         go_enter Tryd.func15, Tryd.ntmps15
         try go_wp2_with (first | ((with_reducible refine gate_dst (N := 1) rfl ?_); refine box_event ?hg (N := 1) ?hd (cs := #[.int .i64 a0_0, .int .i64 a0_1, .int .i64 a0_2, .string a0_3, .string a0_4]) (t := 23) ?hr ?_; (case hd => rfl); (case hg => rfl); (case hr => first | (go_simp; done) | (go_simp; rfl)); intro gb123 hg w14 hbox hb; have n0_ := Aside0.mk (below_step (by repeat (first | (with_reducible first | exact HB.out | apply yA_ | apply yN_ | apply yD_) | exact HB.out)) hb); have n1_ := Aside0.mk (hbox); have n2_ := Aside0.mk ((by rw [hg]; exact (below_size (by repeat (first | (with_reducible first | exact HB.out | apply yA_ | apply yN_ | apply yD_) | exact HB.out))) : w.heap.size ≤ gb123)); have n3_ := Aside0.mk ((by rw [hg]; exact (below_size (by repeat (first | (with_reducible first | exact HB.out | apply yA_ | apply yN_ | apply yD_) | exact HB.out))) : w.heap.size ≤ gb123)); clear HB; have HB := n0_; have BK123 := n1_; have GW123 := n2_; have GE123 := n3_; clear n0_ n1_ n2_ n3_; clear hb hbox hg; have hcz15_0 : w14.cell? ⟨gb123, 0, none⟩ = some (.int .i64 a0_0) := (xC_ BK123.out 0).trans rfl; have hcz15_1 : w14.cell? ⟨gb123, 1, none⟩ = some (.int .i64 a0_1) := (xC_ BK123.out 1).trans rfl; have hcz15_2 : w14.cell? ⟨gb123, 2, none⟩ = some (.int .i64 a0_2) := (xC_ BK123.out 2).trans rfl; have hcz15_3 : w14.cell? ⟨gb123, 3, none⟩ = some (.string a0_3) := (xC_ BK123.out 3).trans rfl; have hcz15_4 : w14.cell? ⟨gb123, 4, none⟩ = some (.string a0_4) := (xC_ BK123.out 4).trans rfl; have hfz15_0 := xF_ BK123.out 0; have hfz15_1 := xF_ BK123.out 1; have hfz15_2 := xF_ BK123.out 2; have hfz15_3 := xF_ BK123.out 3; have hfz15_4 := xF_ BK123.out 4) | ((with_reducible refine gate_callee (f := 13) rfl ?_); refine goesL_ (some 5) rfl rfl Tryd.func13 (by kernel_rfl) rfl #[.agg #[.int .i64 a0_0, .int .i64 a0_1, .int .i64 a0_2, .string a0_3, .string a0_4]] rfl (by (try simp only [List.map_toArray, List.map_cons, List.map_nil]); first | done | rfl) ?_; (with_reducible refine (ver_Check.calls a0_0 a0_1 a0_2 a0_3 a0_4 true _ A2.out).mono ?_); rintro e w16 ⟨rfl, hb⟩; refine ⟨_, rfl, ?_⟩; have n0_ := Aside0.mk (blk_below (g := gb123) (o := .cells #[.int .i64 a0_0, .int .i64 a0_1, .int .i64 a0_2, .string a0_3, .string a0_4] 23 (0, 0)) (by (with_reducible repeat (first | apply xN_ | apply xD_ | apply xA_)); exact BK123.out) hb); have n1_ := Aside0.mk (below_step (by repeat (first | (with_reducible first | exact HB.out | apply yA_ | apply yN_ | apply yD_ | refine yS_ ?_ GE123.out) | exact HB.out)) hb); clear BK123; clear HB; have BK123 := n0_; have HB := n1_; clear n0_ n1_; (try clear hb); (try clear hb2); (try clear hk); (try clear hi)))
         have n0_ := Aside0.mk (xD_ BK123.out)
         have n1_ := Aside0.mk (yD_ HB.out)
         clear BK123
         clear HB
         have BK123 := n0_
         have HB := n1_
         clear n0_ n1_
         refine start_ (n := 15) (S := fun w' => w'.cell? ⟨gb123, 0, none⟩ = some (.int .i64 a0_0) ∧ w'.cell? ⟨gb123, 1, none⟩ = some (.int .i64 a0_1) ∧ w'.cell? ⟨gb123, 2, none⟩ = some (.int .i64 a0_2) ∧ w'.cell? ⟨gb123, 3, none⟩ = some (.string a0_3) ∧ w'.cell? ⟨gb123, 4, none⟩ = some (.string a0_4)) (ds := []) #[false, false, false, false, false, false, false, false, false, false, false, false, false, false, false] (by kernel_rfl) rfl rfl ⟨(xC_ BK123.out 0).trans rfl, (xC_ BK123.out 1).trans rfl, (xC_ BK123.out 2).trans rfl, (xC_ BK123.out 3).trans rfl, (xC_ BK123.out 4).trans rfl⟩ (fun hHeld => ?_); refine with_tabW ver_Text.tab3 ver_Text.bits3 (fun HT_ HW_ => ?_)
         generalize w16.drew = w17 at BK123 HB hHeld ⊢
         refine pure_ (i := 0) (N := some 7) (v := ?_) (a' := ?_) #[true, false, false, false, false, false, false, false, false, false, false, false, false, false, false] rfl rfl (any_of HT_.out (by kernel_rfl)) (fun _ _ _ h => h) (Or.inl ⟨by rfl, ?_⟩) ?_ ?_
         rotate_left
         ·intro w'
          go_simp
          with_reducible rfl
         rotate_left
         ·simp only [Act.put, List.setIfInBounds_toArray, List.set_cons_zero, List.set_cons_succ, i64_w, i32_w]
          rfl
         refine pure_ (i := 5) (N := some 12) (v := ?_) (a' := ?_) #[true, false, false, false, false, true, false, false, false, false, false, false, false, false, false] rfl rfl (any_of HT_.out (by kernel_rfl)) (fun _ _ _ h => h) (Or.inl ⟨by rfl, ?_⟩) ?_ ?_
         rotate_left
         ·intro w'
          go_simp
          with_reducible rfl
         rotate_left
         ·simp only [Act.put, List.setIfInBounds_toArray, List.set_cons_zero, List.set_cons_succ, i64_w, i32_w]
          rfl
         refine pure_ (i := 10) (N := some 17) (v := ?_) (a' := ?_) #[true, false, false, false, false, true, false, false, false, false, true, false, false, false, false] rfl rfl (any_of HT_.out (by kernel_rfl)) (fun _ _ _ h => h) (Or.inl ⟨by rfl, ?_⟩) ?_ ?_
         rotate_left
         ·intro w'
          go_simp
          with_reducible rfl
         rotate_left
         ·simp only [Act.put, List.setIfInBounds_toArray, List.set_cons_zero, List.set_cons_succ, i64_w, i32_w]
          rfl
         refine take_ (i := 1) (N := some 8) (v := ?_) (a' := ?_) #[true, true, false, false, false, true, false, false, false, false, true, false, false, false, false] rfl rfl (take_ofW HT_.out HW_.out (by kernel_rfl)) (fun _ _ _ h => h) (Or.inl ⟨by rfl, ?_⟩) hHeld ?_ ?_
         rotate_left
         ·rintro w' ⟨s0, s1, s2, s3, s4⟩
          go_simp
          with_reducible rfl
         rotate_left
         ·simp only [Act.put, List.setIfInBounds_toArray, List.set_cons_zero, List.set_cons_succ, i64_w, i32_w]
          rfl
         refine take_ (i := 6) (N := some 13) (v := ?_) (a' := ?_) #[true, true, false, false, false, true, true, false, false, false, true, false, false, false, false] rfl rfl (take_ofW HT_.out HW_.out (by kernel_rfl)) (fun _ _ _ h => h) (Or.inl ⟨by rfl, ?_⟩) hHeld ?_ ?_
         rotate_left
         ·rintro w' ⟨s0, s1, s2, s3, s4⟩
          go_simp
          with_reducible rfl
         rotate_left
         ·simp only [Act.put, List.setIfInBounds_toArray, List.set_cons_zero, List.set_cons_succ, i64_w, i32_w]
          rfl
         refine take_ (i := 11) (N := some 18) (v := ?_) (a' := ?_) #[true, true, false, false, false, true, true, false, false, false, true, true, false, false, false] rfl rfl (take_ofW HT_.out HW_.out (by kernel_rfl)) (fun _ _ _ h => h) (Or.inl ⟨by rfl, ?_⟩) hHeld ?_ ?_
         rotate_left
         ·rintro w' ⟨s0, s1, s2, s3, s4⟩
          go_simp
          with_reducible rfl
         rotate_left
         ·simp only [Act.put, List.setIfInBounds_toArray, List.set_cons_zero, List.set_cons_succ, i64_w, i32_w]
          rfl
         refine one_ (i := 2) (N := some 9) #[true, true, true, false, false, true, true, false, false, false, true, true, false, false, false] rfl rfl (one_of HT_.out (by kernel_rfl)) (by decide) (fun K hK => ?_)
         refine goes_ Tryd.func36 (by kernel_rfl) rfl #[.int .i64 a0_0] (by rfl) rfl rfl (by (try simp only [List.map_toArray, List.map_cons, List.map_nil]); first | done | rfl) ?_
         with_reducible refine (strconv_Itoa.calls a0_0 t125 _ A4.out (LW0 := LW.out.below (by repeat (first | (with_reducible first | exact HB.out | apply yA_ | apply yN_ | apply yD_ | refine yS_ ?_ GE123.out) | exact HB.out)))).mono ?_
         rintro e w18 ⟨rfl, hb⟩
         refine ⟨_, rfl, ?_⟩
         have n0_ := Aside0.mk (blk_below (g := gb123) (o := .cells #[.int .i64 a0_0, .int .i64 a0_1, .int .i64 a0_2, .string a0_3, .string a0_4] 23 (0, 0)) (by (with_reducible repeat (first | apply xN_ | apply xD_ | apply xA_)); exact BK123.out) hb)
         have n1_ := Aside0.mk (below_step (by repeat (first | (with_reducible first | exact HB.out | apply yA_ | apply yN_ | apply yD_ | refine yS_ ?_ GE123.out) | exact HB.out)) hb)
         clear BK123
         clear HB
         have BK123 := n0_
         have HB := n1_
         clear n0_ n1_
         (try clear hb)
         (try clear hb2)
         (try clear hk)
         (try clear hi)
         refine hK.out _ _ ⟨(xC_ BK123.out 0).trans rfl, (xC_ BK123.out 1).trans rfl, (xC_ BK123.out 2).trans rfl, (xC_ BK123.out 3).trans rfl, (xC_ BK123.out 4).trans rfl⟩ (fun hHeld => ?_)
         clear hK K
         refine norm_ (a' := ?_) ?_ ?_
         rotate_left
         ·show Act.put _ (some 9) _ = _
          simp only [Act.put, List.setIfInBounds_toArray, List.set_cons_zero, List.set_cons_succ, i64_w, i32_w]
          rfl
         refine pure_ (i := 3) (N := some 10) (v := ?_) (a' := ?_) #[true, true, true, true, false, true, true, false, false, false, true, true, false, false, false] rfl rfl (any_of HT_.out (by kernel_rfl)) (fun _ _ _ h => h) (Or.inl ⟨by rfl, ?_⟩) ?_ ?_
         rotate_left
         ·intro w'
          go_simp
          with_reducible rfl
         rotate_left
         ·simp only [Act.put, List.setIfInBounds_toArray, List.set_cons_zero, List.set_cons_succ, i64_w, i32_w]
          rfl
         refine pure_ (i := 4) (N := some 11) (v := ?_) (a' := ?_) #[true, true, true, true, true, true, true, false, false, false, true, true, false, false, false] rfl rfl (any_of HT_.out (by kernel_rfl)) (fun _ _ _ h => h) (Or.inl ⟨by rfl, ?_⟩) ?_ ?_
         rotate_left
         ·intro w'
          go_simp
          with_reducible rfl
         rotate_left
         ·simp only [Act.put, List.setIfInBounds_toArray, List.set_cons_zero, List.set_cons_succ, i64_w, i32_w]
          rfl
         refine one_ (i := 7) (N := some 14) #[true, true, true, true, true, true, true, true, false, false, true, true, false, false, false] rfl rfl (one_of HT_.out (by kernel_rfl)) (by decide) (fun K hK => ?_)
         refine goes_ Tryd.func36 (by kernel_rfl) rfl #[.int .i64 a0_1] (by rfl) rfl rfl (by (try simp only [List.map_toArray, List.map_cons, List.map_nil]); first | done | rfl) ?_
         with_reducible refine (strconv_Itoa.calls a0_1 t126 _ A7.out (LW0 := LW.out.below (by repeat (first | (with_reducible first | exact HB.out | apply yA_ | apply yN_ | apply yD_ | refine yS_ ?_ GE123.out) | exact HB.out)))).mono ?_
         rintro e w19 ⟨rfl, hb⟩
         refine ⟨_, rfl, ?_⟩
         have n0_ := Aside0.mk (blk_below (g := gb123) (o := .cells #[.int .i64 a0_0, .int .i64 a0_1, .int .i64 a0_2, .string a0_3, .string a0_4] 23 (0, 0)) (by (with_reducible repeat (first | apply xN_ | apply xD_ | apply xA_)); exact BK123.out) hb)
         have n1_ := Aside0.mk (below_step (by repeat (first | (with_reducible first | exact HB.out | apply yA_ | apply yN_ | apply yD_ | refine yS_ ?_ GE123.out) | exact HB.out)) hb)
         clear BK123
         clear HB
         have BK123 := n0_
         have HB := n1_
         clear n0_ n1_
         (try clear hb)
         (try clear hb2)
         (try clear hk)
         (try clear hi)
         refine hK.out _ _ ⟨(xC_ BK123.out 0).trans rfl, (xC_ BK123.out 1).trans rfl, (xC_ BK123.out 2).trans rfl, (xC_ BK123.out 3).trans rfl, (xC_ BK123.out 4).trans rfl⟩ (fun hHeld => ?_)
         clear hK K
         refine norm_ (a' := ?_) ?_ ?_
         rotate_left
         ·show Act.put _ (some 14) _ = _
          simp only [Act.put, List.setIfInBounds_toArray, List.set_cons_zero, List.set_cons_succ, i64_w, i32_w]
          rfl
         refine pure_ (i := 8) (N := some 15) (v := ?_) (a' := ?_) #[true, true, true, true, true, true, true, true, true, false, true, true, false, false, false] rfl rfl (any_of HT_.out (by kernel_rfl)) (fun _ _ _ h => h) (Or.inl ⟨by rfl, ?_⟩) ?_ ?_
         rotate_left
         ·intro w'
          go_simp
          with_reducible rfl
         rotate_left
         ·simp only [Act.put, List.setIfInBounds_toArray, List.set_cons_zero, List.set_cons_succ, i64_w, i32_w]
          rfl
         refine pure_ (i := 9) (N := some 16) (v := ?_) (a' := ?_) #[true, true, true, true, true, true, true, true, true, true, true, true, false, false, false] rfl rfl (any_of HT_.out (by kernel_rfl)) (fun _ _ _ h => h) (Or.inl ⟨by rfl, ?_⟩) ?_ ?_
         rotate_left
         ·intro w'
          go_simp
          with_reducible rfl
         rotate_left
         ·simp only [Act.put, List.setIfInBounds_toArray, List.set_cons_zero, List.set_cons_succ, i64_w, i32_w]
          rfl
         refine one_ (i := 12) (N := some 19) #[true, true, true, true, true, true, true, true, true, true, true, true, true, false, false] rfl rfl (one_of HT_.out (by kernel_rfl)) (by decide) (fun K hK => ?_)
         refine goes_ Tryd.func36 (by kernel_rfl) rfl #[.int .i64 a0_2] (by rfl) rfl rfl (by (try simp only [List.map_toArray, List.map_cons, List.map_nil]); first | done | rfl) ?_
         with_reducible refine (strconv_Itoa.calls a0_2 t127 _ A10.out (LW0 := LW.out.below (by repeat (first | (with_reducible first | exact HB.out | apply yA_ | apply yN_ | apply yD_ | refine yS_ ?_ GE123.out) | exact HB.out)))).mono ?_
         rintro e w20 ⟨rfl, hb⟩
         refine ⟨_, rfl, ?_⟩
         have n0_ := Aside0.mk (blk_below (g := gb123) (o := .cells #[.int .i64 a0_0, .int .i64 a0_1, .int .i64 a0_2, .string a0_3, .string a0_4] 23 (0, 0)) (by (with_reducible repeat (first | apply xN_ | apply xD_ | apply xA_)); exact BK123.out) hb)
         have n1_ := Aside0.mk (below_step (by repeat (first | (with_reducible first | exact HB.out | apply yA_ | apply yN_ | apply yD_ | refine yS_ ?_ GE123.out) | exact HB.out)) hb)
         clear BK123
         clear HB
         have BK123 := n0_
         have HB := n1_
         clear n0_ n1_
         (try clear hb)
         (try clear hb2)
         (try clear hk)
         (try clear hi)
         refine hK.out _ _ ⟨(xC_ BK123.out 0).trans rfl, (xC_ BK123.out 1).trans rfl, (xC_ BK123.out 2).trans rfl, (xC_ BK123.out 3).trans rfl, (xC_ BK123.out 4).trans rfl⟩ (fun hHeld => ?_)
         clear hK K
         refine norm_ (a' := ?_) ?_ ?_
         rotate_left
         ·show Act.put _ (some 19) _ = _
          simp only [Act.put, List.setIfInBounds_toArray, List.set_cons_zero, List.set_cons_succ, i64_w, i32_w]
          rfl
         refine pure_ (i := 13) (N := some 20) (v := ?_) (a' := ?_) #[true, true, true, true, true, true, true, true, true, true, true, true, true, true, false] rfl rfl (any_of HT_.out (by kernel_rfl)) (fun _ _ _ h => h) (Or.inl ⟨by rfl, ?_⟩) ?_ ?_
         rotate_left
         ·intro w'
          go_simp
          with_reducible rfl
         rotate_left
         ·simp only [Act.put, List.setIfInBounds_toArray, List.set_cons_zero, List.set_cons_succ, i64_w, i32_w]
          rfl
         refine pure_ (i := 14) (N := some 3) (v := ?_) (a' := ?_) #[true, true, true, true, true, true, true, true, true, true, true, true, true, true, true] rfl rfl (any_of HT_.out (by kernel_rfl)) (fun _ _ _ h => h) (Or.inl ⟨by rfl, ?_⟩) ?_ ?_
         rotate_left
         ·intro w'
          go_simp
          with_reducible rfl
         rotate_left
         ·simp only [Act.put, List.setIfInBounds_toArray, List.set_cons_zero, List.set_cons_succ, i64_w, i32_w]
          rfl
         refine done_ (done_of HT_.out (by kernel_rfl)) ?_
         have hcz21_0 : w20.cell? ⟨gb123, 0, none⟩ = some (.int .i64 a0_0) := (xC_ BK123.out 0).trans rfl
         have hcz21_1 : w20.cell? ⟨gb123, 1, none⟩ = some (.int .i64 a0_1) := (xC_ BK123.out 1).trans rfl
         have hcz21_2 : w20.cell? ⟨gb123, 2, none⟩ = some (.int .i64 a0_2) := (xC_ BK123.out 2).trans rfl
         have hcz21_3 : w20.cell? ⟨gb123, 3, none⟩ = some (.string a0_3) := (xC_ BK123.out 3).trans rfl
         have hcz21_4 : w20.cell? ⟨gb123, 4, none⟩ = some (.string a0_4) := (xC_ BK123.out 4).trans rfl
         have hfz21_0 := xF_ BK123.out 0
         have hfz21_1 := xF_ BK123.out 1
         have hfz21_2 := xF_ BK123.out 2
         have hfz21_3 := xF_ BK123.out 3
         have hfz21_4 := xF_ BK123.out 4
         try go_wp2
         go_ret
         exact ⟨by first | rfl | (simp [errW_none, errW_some] <;> rfl) | (simp [*, errW_none, errW_some] <;> rfl), by repeat (first | (with_reducible first | exact HB.out | apply yA_ | apply yN_ | apply yD_ | refine yS_ ?_ GE123.out) | exact HB.out)⟩
        ·rw [if_neg c13] at H
         have c13b0 : (a0_4.toList == ([] : List UInt8)) = false := beq_eq_false_iff_ne.mpr c13
         have c13b1 : (a0_4.toList != ([] : List UInt8)) = true := bne_iff_ne.mpr c13
         by_cases c22 : 1 + a0_4.size ≤ 9223372036854775807
         ·rw [if_pos c22] at H
          have c22b0 := eq_true c22
          have c22b1 : decide (1 + a0_4.size ≤ 9223372036854775807) = true := decide_eq_true c22
          try have c22b2 : (9223372036854775807 < 1 + a0_4.size) = False := eq_false (Nat.not_lt.2 c22)
          by_cases c23 : ((((((⟨#[118]⟩ : ByteArray) ++ t125) ++ (⟨#[46]⟩ : ByteArray)) ++ t126) ++ (⟨#[46]⟩ : ByteArray)) ++ t127).size + ((⟨#[43]⟩ : ByteArray) ++ a0_4).size ≤ 9223372036854775807
          ·rw [if_pos c23] at H
           have c23b0 := eq_true c23
           have c23b1 : decide (((((((⟨#[118]⟩ : ByteArray) ++ t125) ++ (⟨#[46]⟩ : ByteArray)) ++ t126) ++ (⟨#[46]⟩ : ByteArray)) ++ t127).size + ((⟨#[43]⟩ : ByteArray) ++ a0_4).size ≤ 9223372036854775807) = true := decide_eq_true c23
           try have c23b2 : (9223372036854775807 < ((((((⟨#[118]⟩ : ByteArray) ++ t125) ++ (⟨#[46]⟩ : ByteArray)) ++ t126) ++ (⟨#[46]⟩ : ByteArray)) ++ t127).size + ((⟨#[43]⟩ : ByteArray) ++ a0_4).size) = False := eq_false (Nat.not_lt.2 c23)
           (try (have c23b3 := c23; simp only [show (⟨#[118]⟩ : ByteArray).size = 1 from rfl, show (⟨#[43]⟩ : ByteArray).size = 1 from rfl, show (⟨#[46]⟩ : ByteArray).size = 1 from rfl, ByteArray.size_append, ByteArray.size_extract] at c23b3; have c23b4 := eq_true c23b3; have c23b5 := decide_eq_true c23b3; have c23b6 := eq_false (Nat.not_lt.2 c23b3)))
           obtain rfl := Option.some.inj H
           go_enter Tryd.func15, Tryd.ntmps15
           try go_wp2_with (first | ((with_reducible refine gate_dst (N := 1) rfl ?_); refine box_event ?hg (N := 1) ?hd (cs := #[.int .i64 a0_0, .int .i64 a0_1, .int .i64 a0_2, .string a0_3, .string a0_4]) (t := 23) ?hr ?_; (case hd => rfl); (case hg => rfl); (case hr => first | (go_simp; done) | (go_simp; rfl)); intro gb123 hg w24 hbox hb; have n0_ := Aside0.mk (below_step (by repeat (first | (with_reducible first | exact HB.out | apply yA_ | apply yN_ | apply yD_) | exact HB.out)) hb); have n1_ := Aside0.mk (hbox); have n2_ := Aside0.mk ((by rw [hg]; exact (below_size (by repeat (first | (with_reducible first | exact HB.out | apply yA_ | apply yN_ | apply yD_) | exact HB.out))) : w.heap.size ≤ gb123)); have n3_ := Aside0.mk ((by rw [hg]; exact (below_size (by repeat (first | (with_reducible first | exact HB.out | apply yA_ | apply yN_ | apply yD_) | exact HB.out))) : w.heap.size ≤ gb123)); clear HB; have HB := n0_; have BK123 := n1_; have GW123 := n2_; have GE123 := n3_; clear n0_ n1_ n2_ n3_; clear hb hbox hg; have hcz25_0 : w24.cell? ⟨gb123, 0, none⟩ = some (.int .i64 a0_0) := (xC_ BK123.out 0).trans rfl; have hcz25_1 : w24.cell? ⟨gb123, 1, none⟩ = some (.int .i64 a0_1) := (xC_ BK123.out 1).trans rfl; have hcz25_2 : w24.cell? ⟨gb123, 2, none⟩ = some (.int .i64 a0_2) := (xC_ BK123.out 2).trans rfl; have hcz25_3 : w24.cell? ⟨gb123, 3, none⟩ = some (.string a0_3) := (xC_ BK123.out 3).trans rfl; have hcz25_4 : w24.cell? ⟨gb123, 4, none⟩ = some (.string a0_4) := (xC_ BK123.out 4).trans rfl; have hfz25_0 := xF_ BK123.out 0; have hfz25_1 := xF_ BK123.out 1; have hfz25_2 := xF_ BK123.out 2; have hfz25_3 := xF_ BK123.out 3; have hfz25_4 := xF_ BK123.out 4) | ((with_reducible refine gate_callee (f := 13) rfl ?_); refine goesL_ (some 5) rfl rfl Tryd.func13 (by kernel_rfl) rfl #[.agg #[.int .i64 a0_0, .int .i64 a0_1, .int .i64 a0_2, .string a0_3, .string a0_4]] rfl (by (try simp only [List.map_toArray, List.map_cons, List.map_nil]); first | done | rfl) ?_; (with_reducible refine (ver_Check.calls a0_0 a0_1 a0_2 a0_3 a0_4 true _ A2.out).mono ?_); rintro e w26 ⟨rfl, hb⟩; refine ⟨_, rfl, ?_⟩; have n0_ := Aside0.mk (blk_below (g := gb123) (o := .cells #[.int .i64 a0_0, .int .i64 a0_1, .int .i64 a0_2, .string a0_3, .string a0_4] 23 (0, 0)) (by (with_reducible repeat (first | apply xN_ | apply xD_ | apply xA_)); exact BK123.out) hb); have n1_ := Aside0.mk (below_step (by repeat (first | (with_reducible first | exact HB.out | apply yA_ | apply yN_ | apply yD_ | refine yS_ ?_ GE123.out) | exact HB.out)) hb); clear BK123; clear HB; have BK123 := n0_; have HB := n1_; clear n0_ n1_; (try clear hb); (try clear hb2); (try clear hk); (try clear hi)))
           have n0_ := Aside0.mk (xD_ BK123.out)
           have n1_ := Aside0.mk (yD_ HB.out)
           clear BK123
           clear HB
           have BK123 := n0_
           have HB := n1_
           clear n0_ n1_
           refine start_ (n := 15) (S := fun w' => w'.cell? ⟨gb123, 0, none⟩ = some (.int .i64 a0_0) ∧ w'.cell? ⟨gb123, 1, none⟩ = some (.int .i64 a0_1) ∧ w'.cell? ⟨gb123, 2, none⟩ = some (.int .i64 a0_2) ∧ w'.cell? ⟨gb123, 3, none⟩ = some (.string a0_3) ∧ w'.cell? ⟨gb123, 4, none⟩ = some (.string a0_4)) (ds := []) #[false, false, false, false, false, false, false, false, false, false, false, false, false, false, false] (by kernel_rfl) rfl rfl ⟨(xC_ BK123.out 0).trans rfl, (xC_ BK123.out 1).trans rfl, (xC_ BK123.out 2).trans rfl, (xC_ BK123.out 3).trans rfl, (xC_ BK123.out 4).trans rfl⟩ (fun hHeld => ?_); refine with_tabW ver_Text.tab3 ver_Text.bits3 (fun HT_ HW_ => ?_)
           generalize w26.drew = w27 at BK123 HB hHeld ⊢
           refine pure_ (i := 0) (N := some 7) (v := ?_) (a' := ?_) #[true, false, false, false, false, false, false, false, false, false, false, false, false, false, false] rfl rfl (any_of HT_.out (by kernel_rfl)) (fun _ _ _ h => h) (Or.inl ⟨by rfl, ?_⟩) ?_ ?_
           rotate_left
           ·intro w'
            go_simp
            with_reducible rfl
           rotate_left
           ·simp only [Act.put, List.setIfInBounds_toArray, List.set_cons_zero, List.set_cons_succ, i64_w, i32_w]
            rfl
           refine pure_ (i := 5) (N := some 12) (v := ?_) (a' := ?_) #[true, false, false, false, false, true, false, false, false, false, false, false, false, false, false] rfl rfl (any_of HT_.out (by kernel_rfl)) (fun _ _ _ h => h) (Or.inl ⟨by rfl, ?_⟩) ?_ ?_
           rotate_left
           ·intro w'
            go_simp
            with_reducible rfl
           rotate_left
           ·simp only [Act.put, List.setIfInBounds_toArray, List.set_cons_zero, List.set_cons_succ, i64_w, i32_w]
            rfl
           refine pure_ (i := 10) (N := some 17) (v := ?_) (a' := ?_) #[true, false, false, false, false, true, false, false, false, false, true, false, false, false, false] rfl rfl (any_of HT_.out (by kernel_rfl)) (fun _ _ _ h => h) (Or.inl ⟨by rfl, ?_⟩) ?_ ?_
           rotate_left
           ·intro w'
            go_simp
            with_reducible rfl
           rotate_left
           ·simp only [Act.put, List.setIfInBounds_toArray, List.set_cons_zero, List.set_cons_succ, i64_w, i32_w]
            rfl
           refine take_ (i := 1) (N := some 8) (v := ?_) (a' := ?_) #[true, true, false, false, false, true, false, false, false, false, true, false, false, false, false] rfl rfl (take_ofW HT_.out HW_.out (by kernel_rfl)) (fun _ _ _ h => h) (Or.inl ⟨by rfl, ?_⟩) hHeld ?_ ?_
           rotate_left
           ·rintro w' ⟨s0, s1, s2, s3, s4⟩
            go_simp
            with_reducible rfl
           rotate_left
           ·simp only [Act.put, List.setIfInBounds_toArray, List.set_cons_zero, List.set_cons_succ, i64_w, i32_w]
            rfl
           refine take_ (i := 6) (N := some 13) (v := ?_) (a' := ?_) #[true, true, false, false, false, true, true, false, false, false, true, false, false, false, false] rfl rfl (take_ofW HT_.out HW_.out (by kernel_rfl)) (fun _ _ _ h => h) (Or.inl ⟨by rfl, ?_⟩) hHeld ?_ ?_
           rotate_left
           ·rintro w' ⟨s0, s1, s2, s3, s4⟩
            go_simp
            with_reducible rfl
           rotate_left
           ·simp only [Act.put, List.setIfInBounds_toArray, List.set_cons_zero, List.set_cons_succ, i64_w, i32_w]
            rfl
           refine take_ (i := 11) (N := some 18) (v := ?_) (a' := ?_) #[true, true, false, false, false, true, true, false, false, false, true, true, false, false, false] rfl rfl (take_ofW HT_.out HW_.out (by kernel_rfl)) (fun _ _ _ h => h) (Or.inl ⟨by rfl, ?_⟩) hHeld ?_ ?_
           rotate_left
           ·rintro w' ⟨s0, s1, s2, s3, s4⟩
            go_simp
            with_reducible rfl
           rotate_left
           ·simp only [Act.put, List.setIfInBounds_toArray, List.set_cons_zero, List.set_cons_succ, i64_w, i32_w]
            rfl
           refine one_ (i := 2) (N := some 9) #[true, true, true, false, false, true, true, false, false, false, true, true, false, false, false] rfl rfl (one_of HT_.out (by kernel_rfl)) (by decide) (fun K hK => ?_)
           refine goes_ Tryd.func36 (by kernel_rfl) rfl #[.int .i64 a0_0] (by rfl) rfl rfl (by (try simp only [List.map_toArray, List.map_cons, List.map_nil]); first | done | rfl) ?_
           with_reducible refine (strconv_Itoa.calls a0_0 t125 _ A4.out (LW0 := LW.out.below (by repeat (first | (with_reducible first | exact HB.out | apply yA_ | apply yN_ | apply yD_ | refine yS_ ?_ GE123.out) | exact HB.out)))).mono ?_
           rintro e w28 ⟨rfl, hb⟩
           refine ⟨_, rfl, ?_⟩
           have n0_ := Aside0.mk (blk_below (g := gb123) (o := .cells #[.int .i64 a0_0, .int .i64 a0_1, .int .i64 a0_2, .string a0_3, .string a0_4] 23 (0, 0)) (by (with_reducible repeat (first | apply xN_ | apply xD_ | apply xA_)); exact BK123.out) hb)
           have n1_ := Aside0.mk (below_step (by repeat (first | (with_reducible first | exact HB.out | apply yA_ | apply yN_ | apply yD_ | refine yS_ ?_ GE123.out) | exact HB.out)) hb)
           clear BK123
           clear HB
           have BK123 := n0_
           have HB := n1_
           clear n0_ n1_
           (try clear hb)
           (try clear hb2)
           (try clear hk)
           (try clear hi)
           refine hK.out _ _ ⟨(xC_ BK123.out 0).trans rfl, (xC_ BK123.out 1).trans rfl, (xC_ BK123.out 2).trans rfl, (xC_ BK123.out 3).trans rfl, (xC_ BK123.out 4).trans rfl⟩ (fun hHeld => ?_)
           clear hK K
           refine norm_ (a' := ?_) ?_ ?_
           rotate_left
           ·show Act.put _ (some 9) _ = _
            simp only [Act.put, List.setIfInBounds_toArray, List.set_cons_zero, List.set_cons_succ, i64_w, i32_w]
            rfl
           refine pure_ (i := 3) (N := some 10) (v := ?_) (a' := ?_) #[true, true, true, true, false, true, true, false, false, false, true, true, false, false, false] rfl rfl (any_of HT_.out (by kernel_rfl)) (fun _ _ _ h => h) (Or.inl ⟨by rfl, ?_⟩) ?_ ?_
           rotate_left
           ·intro w'
            go_simp
            with_reducible rfl
           rotate_left
           ·simp only [Act.put, List.setIfInBounds_toArray, List.set_cons_zero, List.set_cons_succ, i64_w, i32_w]
            rfl
           refine pure_ (i := 4) (N := some 11) (v := ?_) (a' := ?_) #[true, true, true, true, true, true, true, false, false, false, true, true, false, false, false] rfl rfl (any_of HT_.out (by kernel_rfl)) (fun _ _ _ h => h) (Or.inl ⟨by rfl, ?_⟩) ?_ ?_
           rotate_left
           ·intro w'
            go_simp
            with_reducible rfl
           rotate_left
           ·simp only [Act.put, List.setIfInBounds_toArray, List.set_cons_zero, List.set_cons_succ, i64_w, i32_w]
            rfl
           refine one_ (i := 7) (N := some 14) #[true, true, true, true, true, true, true, true, false, false, true, true, false, false, false] rfl rfl (one_of HT_.out (by kernel_rfl)) (by decide) (fun K hK => ?_)
           refine goes_ Tryd.func36 (by kernel_rfl) rfl #[.int .i64 a0_1] (by rfl) rfl rfl (by (try simp only [List.map_toArray, List.map_cons, List.map_nil]); first | done | rfl) ?_
           with_reducible refine (strconv_Itoa.calls a0_1 t126 _ A7.out (LW0 := LW.out.below (by repeat (first | (with_reducible first | exact HB.out | apply yA_ | apply yN_ | apply yD_ | refine yS_ ?_ GE123.out) | exact HB.out)))).mono ?_
           rintro e w29 ⟨rfl, hb⟩
           refine ⟨_, rfl, ?_⟩
           have n0_ := Aside0.mk (blk_below (g := gb123) (o := .cells #[.int .i64 a0_0, .int .i64 a0_1, .int .i64 a0_2, .string a0_3, .string a0_4] 23 (0, 0)) (by (with_reducible repeat (first | apply xN_ | apply xD_ | apply xA_)); exact BK123.out) hb)
           have n1_ := Aside0.mk (below_step (by repeat (first | (with_reducible first | exact HB.out | apply yA_ | apply yN_ | apply yD_ | refine yS_ ?_ GE123.out) | exact HB.out)) hb)
           clear BK123
           clear HB
           have BK123 := n0_
           have HB := n1_
           clear n0_ n1_
           (try clear hb)
           (try clear hb2)
           (try clear hk)
           (try clear hi)
           refine hK.out _ _ ⟨(xC_ BK123.out 0).trans rfl, (xC_ BK123.out 1).trans rfl, (xC_ BK123.out 2).trans rfl, (xC_ BK123.out 3).trans rfl, (xC_ BK123.out 4).trans rfl⟩ (fun hHeld => ?_)
           clear hK K
           refine norm_ (a' := ?_) ?_ ?_
           rotate_left
           ·show Act.put _ (some 14) _ = _
            simp only [Act.put, List.setIfInBounds_toArray, List.set_cons_zero, List.set_cons_succ, i64_w, i32_w]
            rfl
           refine pure_ (i := 8) (N := some 15) (v := ?_) (a' := ?_) #[true, true, true, true, true, true, true, true, true, false, true, true, false, false, false] rfl rfl (any_of HT_.out (by kernel_rfl)) (fun _ _ _ h => h) (Or.inl ⟨by rfl, ?_⟩) ?_ ?_
           rotate_left
           ·intro w'
            go_simp
            with_reducible rfl
           rotate_left
           ·simp only [Act.put, List.setIfInBounds_toArray, List.set_cons_zero, List.set_cons_succ, i64_w, i32_w]
            rfl
           refine pure_ (i := 9) (N := some 16) (v := ?_) (a' := ?_) #[true, true, true, true, true, true, true, true, true, true, true, true, false, false, false] rfl rfl (any_of HT_.out (by kernel_rfl)) (fun _ _ _ h => h) (Or.inl ⟨by rfl, ?_⟩) ?_ ?_
           rotate_left
           ·intro w'
            go_simp
            with_reducible rfl
           rotate_left
           ·simp only [Act.put, List.setIfInBounds_toArray, List.set_cons_zero, List.set_cons_succ, i64_w, i32_w]
            rfl
           refine one_ (i := 12) (N := some 19) #[true, true, true, true, true, true, true, true, true, true, true, true, true, false, false] rfl rfl (one_of HT_.out (by kernel_rfl)) (by decide) (fun K hK => ?_)
           refine goes_ Tryd.func36 (by kernel_rfl) rfl #[.int .i64 a0_2] (by rfl) rfl rfl (by (try simp only [List.map_toArray, List.map_cons, List.map_nil]); first | done | rfl) ?_
           with_reducible refine (strconv_Itoa.calls a0_2 t127 _ A10.out (LW0 := LW.out.below (by repeat (first | (with_reducible first | exact HB.out | apply yA_ | apply yN_ | apply yD_ | refine yS_ ?_ GE123.out) | exact HB.out)))).mono ?_
           rintro e w30 ⟨rfl, hb⟩
           refine ⟨_, rfl, ?_⟩
           have n0_ := Aside0.mk (blk_below (g := gb123) (o := .cells #[.int .i64 a0_0, .int .i64 a0_1, .int .i64 a0_2, .string a0_3, .string a0_4] 23 (0, 0)) (by (with_reducible repeat (first | apply xN_ | apply xD_ | apply xA_)); exact BK123.out) hb)
           have n1_ := Aside0.mk (below_step (by repeat (first | (with_reducible first | exact HB.out | apply yA_ | apply yN_ | apply yD_ | refine yS_ ?_ GE123.out) | exact HB.out)) hb)
           clear BK123
           clear HB
           have BK123 := n0_
           have HB := n1_
           clear n0_ n1_
           (try clear hb)
           (try clear hb2)
           (try clear hk)
           (try clear hi)
           refine hK.out _ _ ⟨(xC_ BK123.out 0).trans rfl, (xC_ BK123.out 1).trans rfl, (xC_ BK123.out 2).trans rfl, (xC_ BK123.out 3).trans rfl, (xC_ BK123.out 4).trans rfl⟩ (fun hHeld => ?_)
           clear hK K
           refine norm_ (a' := ?_) ?_ ?_
           rotate_left
           ·show Act.put _ (some 19) _ = _
            simp only [Act.put, List.setIfInBounds_toArray, List.set_cons_zero, List.set_cons_succ, i64_w, i32_w]
            rfl
           refine pure_ (i := 13) (N := some 20) (v := ?_) (a' := ?_) #[true, true, true, true, true, true, true, true, true, true, true, true, true, true, false] rfl rfl (any_of HT_.out (by kernel_rfl)) (fun _ _ _ h => h) (Or.inl ⟨by rfl, ?_⟩) ?_ ?_
           rotate_left
           ·intro w'
            go_simp
            with_reducible rfl
           rotate_left
           ·simp only [Act.put, List.setIfInBounds_toArray, List.set_cons_zero, List.set_cons_succ, i64_w, i32_w]
            rfl
           refine pure_ (i := 14) (N := some 3) (v := ?_) (a' := ?_) #[true, true, true, true, true, true, true, true, true, true, true, true, true, true, true] rfl rfl (any_of HT_.out (by kernel_rfl)) (fun _ _ _ h => h) (Or.inl ⟨by rfl, ?_⟩) ?_ ?_
           rotate_left
           ·intro w'
            go_simp
            with_reducible rfl
           rotate_left
           ·simp only [Act.put, List.setIfInBounds_toArray, List.set_cons_zero, List.set_cons_succ, i64_w, i32_w]
            rfl
           refine done_ (done_of HT_.out (by kernel_rfl)) ?_
           have hcz31_0 : w30.cell? ⟨gb123, 0, none⟩ = some (.int .i64 a0_0) := (xC_ BK123.out 0).trans rfl
           have hcz31_1 : w30.cell? ⟨gb123, 1, none⟩ = some (.int .i64 a0_1) := (xC_ BK123.out 1).trans rfl
           have hcz31_2 : w30.cell? ⟨gb123, 2, none⟩ = some (.int .i64 a0_2) := (xC_ BK123.out 2).trans rfl
           have hcz31_3 : w30.cell? ⟨gb123, 3, none⟩ = some (.string a0_3) := (xC_ BK123.out 3).trans rfl
           have hcz31_4 : w30.cell? ⟨gb123, 4, none⟩ = some (.string a0_4) := (xC_ BK123.out 4).trans rfl
           have hfz31_0 := xF_ BK123.out 0
           have hfz31_1 := xF_ BK123.out 1
           have hfz31_2 := xF_ BK123.out 2
           have hfz31_3 := xF_ BK123.out 3
           have hfz31_4 := xF_ BK123.out 4
           try go_wp2
           go_ret
           exact ⟨by first | rfl | (simp [errW_none, errW_some] <;> rfl) | (simp [*, errW_none, errW_some] <;> rfl), by repeat (first | (with_reducible first | exact HB.out | apply yA_ | apply yN_ | apply yD_ | refine yS_ ?_ GE123.out) | exact HB.out)⟩
          ·rw [if_neg c23] at H
           exact absurd H (by simp)
         ·rw [if_neg c22] at H
          exact absurd H (by simp)
       ·rw [if_neg c12] at H
        have c12b0 : (a0_3.toList == ([] : List UInt8)) = false := beq_eq_false_iff_ne.mpr c12
        have c12b1 : (a0_3.toList != ([] : List UInt8)) = true := bne_iff_ne.mpr c12
        by_cases c32 : 1 + a0_3.size ≤ 9223372036854775807
        ·rw [if_pos c32] at H
         have c32b0 := eq_true c32
         have c32b1 : decide (1 + a0_3.size ≤ 9223372036854775807) = true := decide_eq_true c32
         try have c32b2 : (9223372036854775807 < 1 + a0_3.size) = False := eq_false (Nat.not_lt.2 c32)
         by_cases c33 : ((((((⟨#[118]⟩ : ByteArray) ++ t125) ++ (⟨#[46]⟩ : ByteArray)) ++ t126) ++ (⟨#[46]⟩ : ByteArray)) ++ t127).size + ((⟨#[45]⟩ : ByteArray) ++ a0_3).size ≤ 9223372036854775807
         ·rw [if_pos c33] at H
          have c33b0 := eq_true c33
          have c33b1 : decide (((((((⟨#[118]⟩ : ByteArray) ++ t125) ++ (⟨#[46]⟩ : ByteArray)) ++ t126) ++ (⟨#[46]⟩ : ByteArray)) ++ t127).size + ((⟨#[45]⟩ : ByteArray) ++ a0_3).size ≤ 9223372036854775807) = true := decide_eq_true c33
          try have c33b2 : (9223372036854775807 < ((((((⟨#[118]⟩ : ByteArray) ++ t125) ++ (⟨#[46]⟩ : ByteArray)) ++ t126) ++ (⟨#[46]⟩ : ByteArray)) ++ t127).size + ((⟨#[45]⟩ : ByteArray) ++ a0_3).size) = False := eq_false (Nat.not_lt.2 c33)
          (try (have c33b3 := c33; simp only [show (⟨#[118]⟩ : ByteArray).size = 1 from rfl, show (⟨#[45]⟩ : ByteArray).size = 1 from rfl, show (⟨#[46]⟩ : ByteArray).size = 1 from rfl, ByteArray.size_append, ByteArray.size_extract] at c33b3; have c33b4 := eq_true c33b3; have c33b5 := decide_eq_true c33b3; have c33b6 := eq_false (Nat.not_lt.2 c33b3)))
          by_cases c34 : a0_4.toList = ([] : List UInt8)
          ·rw [if_pos c34] at H
           have c34b0 : (a0_4.toList == ([] : List UInt8)) = true := beq_iff_eq.mpr c34
           have c34b1 : (a0_4.toList != ([] : List UInt8)) = false := bne_eq_false_iff_eq.mpr c34
           clear c34
           obtain rfl := Option.some.inj H
           go_enter Tryd.func15, Tryd.ntmps15
           try go_wp2_with (first | ((with_reducible refine gate_dst (N := 1) rfl ?_); refine box_event ?hg (N := 1) ?hd (cs := #[.int .i64 a0_0, .int .i64 a0_1, .int .i64 a0_2, .string a0_3, .string a0_4]) (t := 23) ?hr ?_; (case hd => rfl); (case hg => rfl); (case hr => first | (go_simp; done) | (go_simp; rfl)); intro gb123 hg w35 hbox hb; have n0_ := Aside0.mk (below_step (by repeat (first | (with_reducible first | exact HB.out | apply yA_ | apply yN_ | apply yD_) | exact HB.out)) hb); have n1_ := Aside0.mk (hbox); have n2_ := Aside0.mk ((by rw [hg]; exact (below_size (by repeat (first | (with_reducible first | exact HB.out | apply yA_ | apply yN_ | apply yD_) | exact HB.out))) : w.heap.size ≤ gb123)); have n3_ := Aside0.mk ((by rw [hg]; exact (below_size (by repeat (first | (with_reducible first | exact HB.out | apply yA_ | apply yN_ | apply yD_) | exact HB.out))) : w.heap.size ≤ gb123)); clear HB; have HB := n0_; have BK123 := n1_; have GW123 := n2_; have GE123 := n3_; clear n0_ n1_ n2_ n3_; clear hb hbox hg; have hcz36_0 : w35.cell? ⟨gb123, 0, none⟩ = some (.int .i64 a0_0) := (xC_ BK123.out 0).trans rfl; have hcz36_1 : w35.cell? ⟨gb123, 1, none⟩ = some (.int .i64 a0_1) := (xC_ BK123.out 1).trans rfl; have hcz36_2 : w35.cell? ⟨gb123, 2, none⟩ = some (.int .i64 a0_2) := (xC_ BK123.out 2).trans rfl; have hcz36_3 : w35.cell? ⟨gb123, 3, none⟩ = some (.string a0_3) := (xC_ BK123.out 3).trans rfl; have hcz36_4 : w35.cell? ⟨gb123, 4, none⟩ = some (.string a0_4) := (xC_ BK123.out 4).trans rfl; have hfz36_0 := xF_ BK123.out 0; have hfz36_1 := xF_ BK123.out 1; have hfz36_2 := xF_ BK123.out 2; have hfz36_3 := xF_ BK123.out 3; have hfz36_4 := xF_ BK123.out 4) | ((with_reducible refine gate_callee (f := 13) rfl ?_); refine goesL_ (some 5) rfl rfl Tryd.func13 (by kernel_rfl) rfl #[.agg #[.int .i64 a0_0, .int .i64 a0_1, .int .i64 a0_2, .string a0_3, .string a0_4]] rfl (by (try simp only [List.map_toArray, List.map_cons, List.map_nil]); first | done | rfl) ?_; (with_reducible refine (ver_Check.calls a0_0 a0_1 a0_2 a0_3 a0_4 true _ A2.out).mono ?_); rintro e w37 ⟨rfl, hb⟩; refine ⟨_, rfl, ?_⟩; have n0_ := Aside0.mk (blk_below (g := gb123) (o := .cells #[.int .i64 a0_0, .int .i64 a0_1, .int .i64 a0_2, .string a0_3, .string a0_4] 23 (0, 0)) (by (with_reducible repeat (first | apply xN_ | apply xD_ | apply xA_)); exact BK123.out) hb); have n1_ := Aside0.mk (below_step (by repeat (first | (with_reducible first | exact HB.out | apply yA_ | apply yN_ | apply yD_ | refine yS_ ?_ GE123.out) | exact HB.out)) hb); clear BK123; clear HB; have BK123 := n0_; have HB := n1_; clear n0_ n1_; (try clear hb); (try clear hb2); (try clear hk); (try clear hi)))
           have n0_ := Aside0.mk (xD_ BK123.out)
           have n1_ := Aside0.mk (yD_ HB.out)
           clear BK123
           clear HB
           have BK123 := n0_
           have HB := n1_
           clear n0_ n1_
           refine start_ (n := 15) (S := fun w' => w'.cell? ⟨gb123, 0, none⟩ = some (.int .i64 a0_0) ∧ w'.cell? ⟨gb123, 1, none⟩ = some (.int .i64 a0_1) ∧ w'.cell? ⟨gb123, 2, none⟩ = some (.int .i64 a0_2) ∧ w'.cell? ⟨gb123, 3, none⟩ = some (.string a0_3) ∧ w'.cell? ⟨gb123, 4, none⟩ = some (.string a0_4)) (ds := []) #[false, false, false, false, false, false, false, false, false, false, false, false, false, false, false] (by kernel_rfl) rfl rfl ⟨(xC_ BK123.out 0).trans rfl, (xC_ BK123.out 1).trans rfl, (xC_ BK123.out 2).trans rfl, (xC_ BK123.out 3).trans rfl, (xC_ BK123.out 4).trans rfl⟩ (fun hHeld => ?_); refine with_tabW ver_Text.tab3 ver_Text.bits3 (fun HT_ HW_ => ?_)
           generalize w37.drew = w38 at BK123 HB hHeld ⊢
           refine pure_ (i := 0) (N := some 7) (v := ?_) (a' := ?_) #[true, false, false, false, false, false, false, false, false, false, false, false, false, false, false] rfl rfl (any_of HT_.out (by kernel_rfl)) (fun _ _ _ h => h) (Or.inl ⟨by rfl, ?_⟩) ?_ ?_
           rotate_left
           ·intro w'
            go_simp
            with_reducible rfl
           rotate_left
           ·simp only [Act.put, List.setIfInBounds_toArray, List.set_cons_zero, List.set_cons_succ, i64_w, i32_w]
            rfl
           refine pure_ (i := 5) (N := some 12) (v := ?_) (a' := ?_) #[true, false, false, false, false, true, false, false, false, false, false, false, false, false, false] rfl rfl (any_of HT_.out (by kernel_rfl)) (fun _ _ _ h => h) (Or.inl ⟨by rfl, ?_⟩) ?_ ?_
           rotate_left
           ·intro w'
            go_simp
            with_reducible rfl
           rotate_left
           ·simp only [Act.put, List.setIfInBounds_toArray, List.set_cons_zero, List.set_cons_succ, i64_w, i32_w]
            rfl
           refine pure_ (i := 10) (N := some 17) (v := ?_) (a' := ?_) #[true, false, false, false, false, true, false, false, false, false, true, false, false, false, false] rfl rfl (any_of HT_.out (by kernel_rfl)) (fun _ _ _ h => h) (Or.inl ⟨by rfl, ?_⟩) ?_ ?_
           rotate_left
           ·intro w'
            go_simp
            with_reducible rfl
           rotate_left
           ·simp only [Act.put, List.setIfInBounds_toArray, List.set_cons_zero, List.set_cons_succ, i64_w, i32_w]
            rfl
           refine take_ (i := 1) (N := some 8) (v := ?_) (a' := ?_) #[true, true, false, false, false, true, false, false, false, false, true, false, false, false, false] rfl rfl (take_ofW HT_.out HW_.out (by kernel_rfl)) (fun _ _ _ h => h) (Or.inl ⟨by rfl, ?_⟩) hHeld ?_ ?_
           rotate_left
           ·rintro w' ⟨s0, s1, s2, s3, s4⟩
            go_simp
            with_reducible rfl
           rotate_left
           ·simp only [Act.put, List.setIfInBounds_toArray, List.set_cons_zero, List.set_cons_succ, i64_w, i32_w]
            rfl
           refine take_ (i := 6) (N := some 13) (v := ?_) (a' := ?_) #[true, true, false, false, false, true, true, false, false, false, true, false, false, false, false] rfl rfl (take_ofW HT_.out HW_.out (by kernel_rfl)) (fun _ _ _ h => h) (Or.inl ⟨by rfl, ?_⟩) hHeld ?_ ?_
           rotate_left
           ·rintro w' ⟨s0, s1, s2, s3, s4⟩
            go_simp
            with_reducible rfl
           rotate_left
           ·simp only [Act.put, List.setIfInBounds_toArray, List.set_cons_zero, List.set_cons_succ, i64_w, i32_w]
            rfl
           refine take_ (i := 11) (N := some 18) (v := ?_) (a' := ?_) #[true, true, false, false, false, true, true, false, false, false, true, true, false, false, false] rfl rfl (take_ofW HT_.out HW_.out (by kernel_rfl)) (fun _ _ _ h => h) (Or.inl ⟨by rfl, ?_⟩) hHeld ?_ ?_
           rotate_left
           ·rintro w' ⟨s0, s1, s2, s3, s4⟩
            go_simp
            with_reducible rfl
           rotate_left
           ·simp only [Act.put, List.setIfInBounds_toArray, List.set_cons_zero, List.set_cons_succ, i64_w, i32_w]
            rfl
           refine one_ (i := 2) (N := some 9) #[true, true, true, false, false, true, true, false, false, false, true, true, false, false, false] rfl rfl (one_of HT_.out (by kernel_rfl)) (by decide) (fun K hK => ?_)
           refine goes_ Tryd.func36 (by kernel_rfl) rfl #[.int .i64 a0_0] (by rfl) rfl rfl (by (try simp only [List.map_toArray, List.map_cons, List.map_nil]); first | done | rfl) ?_
           with_reducible refine (strconv_Itoa.calls a0_0 t125 _ A4.out (LW0 := LW.out.below (by repeat (first | (with_reducible first | exact HB.out | apply yA_ | apply yN_ | apply yD_ | refine yS_ ?_ GE123.out) | exact HB.out)))).mono ?_
           rintro e w39 ⟨rfl, hb⟩
           refine ⟨_, rfl, ?_⟩
           have n0_ := Aside0.mk (blk_below (g := gb123) (o := .cells #[.int .i64 a0_0, .int .i64 a0_1, .int .i64 a0_2, .string a0_3, .string a0_4] 23 (0, 0)) (by (with_reducible repeat (first | apply xN_ | apply xD_ | apply xA_)); exact BK123.out) hb)
           have n1_ := Aside0.mk (below_step (by repeat (first | (with_reducible first | exact HB.out | apply yA_ | apply yN_ | apply yD_ | refine yS_ ?_ GE123.out) | exact HB.out)) hb)
           clear BK123
           clear HB
           have BK123 := n0_
           have HB := n1_
           clear n0_ n1_
           (try clear hb)
           (try clear hb2)
           (try clear hk)
           (try clear hi)
           refine hK.out _ _ ⟨(xC_ BK123.out 0).trans rfl, (xC_ BK123.out 1).trans rfl, (xC_ BK123.out 2).trans rfl, (xC_ BK123.out 3).trans rfl, (xC_ BK123.out 4).trans rfl⟩ (fun hHeld => ?_)
           clear hK K
           refine norm_ (a' := ?_) ?_ ?_
           rotate_left
           ·show Act.put _ (some 9) _ = _
            simp only [Act.put, List.setIfInBounds_toArray, List.set_cons_zero, List.set_cons_succ, i64_w, i32_w]
            rfl
           refine pure_ (i := 3) (N := some 10) (v := ?_) (a' := ?_) #[true, true, true, true, false, true, true, false, false, false, true, true, false, false, false] rfl rfl (any_of HT_.out (by kernel_rfl)) (fun _ _ _ h => h) (Or.inl ⟨by rfl, ?_⟩) ?_ ?_
           rotate_left
           ·intro w'
            go_simp
            with_reducible rfl
           rotate_left
           ·simp only [Act.put, List.setIfInBounds_toArray, List.set_cons_zero, List.set_cons_succ, i64_w, i32_w]
            rfl
           refine pure_ (i := 4) (N := some 11) (v := ?_) (a' := ?_) #[true, true, true, true, true, true, true, false, false, false, true, true, false, false, false] rfl rfl (any_of HT_.out (by kernel_rfl)) (fun _ _ _ h => h) (Or.inl ⟨by rfl, ?_⟩) ?_ ?_
           rotate_left
           ·intro w'
            go_simp
            with_reducible rfl
           rotate_left
           ·simp only [Act.put, List.setIfInBounds_toArray, List.set_cons_zero, List.set_cons_succ, i64_w, i32_w]
            rfl
           refine one_ (i := 7) (N := some 14) #[true, true, true, true, true, true, true, true, false, false, true, true, false, false, false] rfl rfl (one_of HT_.out (by kernel_rfl)) (by decide) (fun K hK => ?_)
           refine goes_ Tryd.func36 (by kernel_rfl) rfl #[.int .i64 a0_1] (by rfl) rfl rfl (by (try simp only [List.map_toArray, List.map_cons, List.map_nil]); first | done | rfl) ?_
           with_reducible refine (strconv_Itoa.calls a0_1 t126 _ A7.out (LW0 := LW.out.below (by repeat (first | (with_reducible first | exact HB.out | apply yA_ | apply yN_ | apply yD_ | refine yS_ ?_ GE123.out) | exact HB.out)))).mono ?_
           rintro e w40 ⟨rfl, hb⟩
           refine ⟨_, rfl, ?_⟩
           have n0_ := Aside0.mk (blk_below (g := gb123) (o := .cells #[.int .i64 a0_0, .int .i64 a0_1, .int .i64 a0_2, .string a0_3, .string a0_4] 23 (0, 0)) (by (with_reducible repeat (first | apply xN_ | apply xD_ | apply xA_)); exact BK123.out) hb)
           have n1_ := Aside0.mk (below_step (by repeat (first | (with_reducible first | exact HB.out | apply yA_ | apply yN_ | apply yD_ | refine yS_ ?_ GE123.out) | exact HB.out)) hb)
           clear BK123
           clear HB
           have BK123 := n0_
           have HB := n1_
           clear n0_ n1_
           (try clear hb)
           (try clear hb2)
           (try clear hk)
           (try clear hi)
           refine hK.out _ _ ⟨(xC_ BK123.out 0).trans rfl, (xC_ BK123.out 1).trans rfl, (xC_ BK123.out 2).trans rfl, (xC_ BK123.out 3).trans rfl, (xC_ BK123.out 4).trans rfl⟩ (fun hHeld => ?_)
           clear hK K
           refine norm_ (a' := ?_) ?_ ?_
           rotate_left
           ·show Act.put _ (some 14) _ = _
            simp only [Act.put, List.setIfInBounds_toArray, List.set_cons_zero, List.set_cons_succ, i64_w, i32_w]
            rfl
           refine pure_ (i := 8) (N := some 15) (v := ?_) (a' := ?_) #[true, true, true, true, true, true, true, true, true, false, true, true, false, false, false] rfl rfl (any_of HT_.out (by kernel_rfl)) (fun _ _ _ h => h) (Or.inl ⟨by rfl, ?_⟩) ?_ ?_
           rotate_left
           ·intro w'
            go_simp
            with_reducible rfl
           rotate_left
           ·simp only [Act.put, List.setIfInBounds_toArray, List.set_cons_zero, List.set_cons_succ, i64_w, i32_w]
            rfl
           refine pure_ (i := 9) (N := some 16) (v := ?_) (a' := ?_) #[true, true, true, true, true, true, true, true, true, true, true, true, false, false, false] rfl rfl (any_of HT_.out (by kernel_rfl)) (fun _ _ _ h => h) (Or.inl ⟨by rfl, ?_⟩) ?_ ?_
           rotate_left
           ·intro w'
            go_simp
            with_reducible rfl
           rotate_left
           ·simp only [Act.put, List.setIfInBounds_toArray, List.set_cons_zero, List.set_cons_succ, i64_w, i32_w]
            rfl
           refine one_ (i := 12) (N := some 19) #[true, true, true, true, true, true, true, true, true, true, true, true, true, false, false] rfl rfl (one_of HT_.out (by kernel_rfl)) (by decide) (fun K hK => ?_)
           refine goes_ Tryd.func36 (by kernel_rfl) rfl #[.int .i64 a0_2] (by rfl) rfl rfl (by (try simp only [List.map_toArray, List.map_cons, List.map_nil]); first | done | rfl) ?_
           with_reducible refine (strconv_Itoa.calls a0_2 t127 _ A10.out (LW0 := LW.out.below (by repeat (first | (with_reducible first | exact HB.out | apply yA_ | apply yN_ | apply yD_ | refine yS_ ?_ GE123.out) | exact HB.out)))).mono ?_
           rintro e w41 ⟨rfl, hb⟩
           refine ⟨_, rfl, ?_⟩
           have n0_ := Aside0.mk (blk_below (g := gb123) (o := .cells #[.int .i64 a0_0, .int .i64 a0_1, .int .i64 a0_2, .string a0_3, .string a0_4] 23 (0, 0)) (by (with_reducible repeat (first | apply xN_ | apply xD_ | apply xA_)); exact BK123.out) hb)
           have n1_ := Aside0.mk (below_step (by repeat (first | (with_reducible first | exact HB.out | apply yA_ | apply yN_ | apply yD_ | refine yS_ ?_ GE123.out) | exact HB.out)) hb)
           clear BK123
           clear HB
           have BK123 := n0_
           have HB := n1_
           clear n0_ n1_
           (try clear hb)
           (try clear hb2)
           (try clear hk)
           (try clear hi)
           refine hK.out _ _ ⟨(xC_ BK123.out 0).trans rfl, (xC_ BK123.out 1).trans rfl, (xC_ BK123.out 2).trans rfl, (xC_ BK123.out 3).trans rfl, (xC_ BK123.out 4).trans rfl⟩ (fun hHeld => ?_)
           clear hK K
           refine norm_ (a' := ?_) ?_ ?_
           rotate_left
           ·show Act.put _ (some 19) _ = _
            simp only [Act.put, List.setIfInBounds_toArray, List.set_cons_zero, List.set_cons_succ, i64_w, i32_w]
            rfl
           refine pure_ (i := 13) (N := some 20) (v := ?_) (a' := ?_) #[true, true, true, true, true, true, true, true, true, true, true, true, true, true, false] rfl rfl (any_of HT_.out (by kernel_rfl)) (fun _ _ _ h => h) (Or.inl ⟨by rfl, ?_⟩) ?_ ?_
           rotate_left
           ·intro w'
            go_simp
            with_reducible rfl
           rotate_left
           ·simp only [Act.put, List.setIfInBounds_toArray, List.set_cons_zero, List.set_cons_succ, i64_w, i32_w]
            rfl
           refine pure_ (i := 14) (N := some 3) (v := ?_) (a' := ?_) #[true, true, true, true, true, true, true, true, true, true, true, true, true, true, true] rfl rfl (any_of HT_.out (by kernel_rfl)) (fun _ _ _ h => h) (Or.inl ⟨by rfl, ?_⟩) ?_ ?_
           rotate_left
           ·intro w'
            go_simp
            with_reducible rfl
           rotate_left
           ·simp only [Act.put, List.setIfInBounds_toArray, List.set_cons_zero, List.set_cons_succ, i64_w, i32_w]
            rfl
           refine done_ (done_of HT_.out (by kernel_rfl)) ?_
           have hcz42_0 : w41.cell? ⟨gb123, 0, none⟩ = some (.int .i64 a0_0) := (xC_ BK123.out 0).trans rfl
           have hcz42_1 : w41.cell? ⟨gb123, 1, none⟩ = some (.int .i64 a0_1) := (xC_ BK123.out 1).trans rfl
           have hcz42_2 : w41.cell? ⟨gb123, 2, none⟩ = some (.int .i64 a0_2) := (xC_ BK123.out 2).trans rfl
           have hcz42_3 : w41.cell? ⟨gb123, 3, none⟩ = some (.string a0_3) := (xC_ BK123.out 3).trans rfl
           have hcz42_4 : w41.cell? ⟨gb123, 4, none⟩ = some (.string a0_4) := (xC_ BK123.out 4).trans rfl
           have hfz42_0 := xF_ BK123.out 0
           have hfz42_1 := xF_ BK123.out 1
           have hfz42_2 := xF_ BK123.out 2
           have hfz42_3 := xF_ BK123.out 3
           have hfz42_4 := xF_ BK123.out 4
           try go_wp2
           go_ret
           exact ⟨by first | rfl | (simp [errW_none, errW_some] <;> rfl) | (simp [*, errW_none, errW_some] <;> rfl), by repeat (first | (with_reducible first | exact HB.out | apply yA_ | apply yN_ | apply yD_ | refine yS_ ?_ GE123.out) | exact HB.out)⟩
          ·rw [if_neg c34] at H
           have c34b0 : (a0_4.toList == ([] : List UInt8)) = false := beq_eq_false_iff_ne.mpr c34
           have c34b1 : (a0_4.toList != ([] : List UInt8)) = true := bne_iff_ne.mpr c34
           by_cases c43 : 1 + a0_4.size ≤ 9223372036854775807
           ·rw [if_pos c43] at H
            have c43b0 := eq_true c43
            have c43b1 : decide (1 + a0_4.size ≤ 9223372036854775807) = true := decide_eq_true c43
            try have c43b2 : (9223372036854775807 < 1 + a0_4.size) = False := eq_false (Nat.not_lt.2 c43)
            by_cases c44 : (((((((⟨#[118]⟩ : ByteArray) ++ t125) ++ (⟨#[46]⟩ : ByteArray)) ++ t126) ++ (⟨#[46]⟩ : ByteArray)) ++ t127) ++ ((⟨#[45]⟩ : ByteArray) ++ a0_3)).size + ((⟨#[43]⟩ : ByteArray) ++ a0_4).size ≤ 9223372036854775807
            ·rw [if_pos c44] at H
             have c44b0 := eq_true c44
             have c44b1 : decide ((((((((⟨#[118]⟩ : ByteArray) ++ t125) ++ (⟨#[46]⟩ : ByteArray)) ++ t126) ++ (⟨#[46]⟩ : ByteArray)) ++ t127) ++ ((⟨#[45]⟩ : ByteArray) ++ a0_3)).size + ((⟨#[43]⟩ : ByteArray) ++ a0_4).size ≤ 9223372036854775807) = true := decide_eq_true c44
             try have c44b2 : (9223372036854775807 < (((((((⟨#[118]⟩ : ByteArray) ++ t125) ++ (⟨#[46]⟩ : ByteArray)) ++ t126) ++ (⟨#[46]⟩ : ByteArray)) ++ t127) ++ ((⟨#[45]⟩ : ByteArray) ++ a0_3)).size + ((⟨#[43]⟩ : ByteArray) ++ a0_4).size) = False := eq_false (Nat.not_lt.2 c44)
             (try (have c44b3 := c44; simp only [show (⟨#[118]⟩ : ByteArray).size = 1 from rfl, show (⟨#[43]⟩ : ByteArray).size = 1 from rfl, show (⟨#[45]⟩ : ByteArray).size = 1 from rfl, show (⟨#[46]⟩ : ByteArray).size = 1 from rfl, ByteArray.size_append, ByteArray.size_extract] at c44b3; have c44b4 := eq_true c44b3; have c44b5 := decide_eq_true c44b3; have c44b6 := eq_false (Nat.not_lt.2 c44b3)))
             obtain rfl := Option.some.inj H
             go_enter Tryd.func15, Tryd.ntmps15
             try go_wp2_with (first | ((with_reducible refine gate_dst (N := 1) rfl ?_); refine box_event ?hg (N := 1) ?hd (cs := #[.int .i64 a0_0, .int .i64 a0_1, .int .i64 a0_2, .string a0_3, .string a0_4]) (t := 23) ?hr ?_; (case hd => rfl); (case hg => rfl); (case hr => first | (go_simp; done) | (go_simp; rfl)); intro gb123 hg w45 hbox hb; have n0_ := Aside0.mk (below_step (by repeat (first | (with_reducible first | exact HB.out | apply yA_ | apply yN_ | apply yD_) | exact HB.out)) hb); have n1_ := Aside0.mk (hbox); have n2_ := Aside0.mk ((by rw [hg]; exact (below_size (by repeat (first | (with_reducible first | exact HB.out | apply yA_ | apply yN_ | apply yD_) | exact HB.out))) : w.heap.size ≤ gb123)); have n3_ := Aside0.mk ((by rw [hg]; exact (below_size (by repeat (first | (with_reducible first | exact HB.out | apply yA_ | apply yN_ | apply yD_) | exact HB.out))) : w.heap.size ≤ gb123)); clear HB; have HB := n0_; have BK123 := n1_; have GW123 := n2_; have GE123 := n3_; clear n0_ n1_ n2_ n3_; clear hb hbox hg; have hcz46_0 : w45.cell? ⟨gb123, 0, none⟩ = some (.int .i64 a0_0) := (xC_ BK123.out 0).trans rfl; have hcz46_1 : w45.cell? ⟨gb123, 1, none⟩ = some (.int .i64 a0_1) := (xC_ BK123.out 1).trans rfl; have hcz46_2 : w45.cell? ⟨gb123, 2, none⟩ = some (.int .i64 a0_2) := (xC_ BK123.out 2).trans rfl; have hcz46_3 : w45.cell? ⟨gb123, 3, none⟩ = some (.string a0_3) := (xC_ BK123.out 3).trans rfl; have hcz46_4 : w45.cell? ⟨gb123, 4, none⟩ = some (.string a0_4) := (xC_ BK123.out 4).trans rfl; have hfz46_0 := xF_ BK123.out 0; have hfz46_1 := xF_ BK123.out 1; have hfz46_2 := xF_ BK123.out 2; have hfz46_3 := xF_ BK123.out 3; have hfz46_4 := xF_ BK123.out 4) | ((with_reducible refine gate_callee (f := 13) rfl ?_); refine goesL_ (some 5) rfl rfl Tryd.func13 (by kernel_rfl) rfl #[.agg #[.int .i64 a0_0, .int .i64 a0_1, .int .i64 a0_2, .string a0_3, .string a0_4]] rfl (by (try simp only [List.map_toArray, List.map_cons, List.map_nil]); first | done | rfl) ?_; (with_reducible refine (ver_Check.calls a0_0 a0_1 a0_2 a0_3 a0_4 true _ A2.out).mono ?_); rintro e w47 ⟨rfl, hb⟩; refine ⟨_, rfl, ?_⟩; have n0_ := Aside0.mk (blk_below (g := gb123) (o := .cells #[.int .i64 a0_0, .int .i64 a0_1, .int .i64 a0_2, .string a0_3, .string a0_4] 23 (0, 0)) (by (with_reducible repeat (first | apply xN_ | apply xD_ | apply xA_)); exact BK123.out) hb); have n1_ := Aside0.mk (below_step (by repeat (first | (with_reducible first | exact HB.out | apply yA_ | apply yN_ | apply yD_ | refine yS_ ?_ GE123.out) | exact HB.out)) hb); clear BK123; clear HB; have BK123 := n0_; have HB := n1_; clear n0_ n1_; (try clear hb); (try clear hb2); (try clear hk); (try clear hi)))
             have n0_ := Aside0.mk (xD_ BK123.out)
             have n1_ := Aside0.mk (yD_ HB.out)
             clear BK123
             clear HB
             have BK123 := n0_
             have HB := n1_
             clear n0_ n1_
             refine start_ (n := 15) (S := fun w' => w'.cell? ⟨gb123, 0, none⟩ = some (.int .i64 a0_0) ∧ w'.cell? ⟨gb123, 1, none⟩ = some (.int .i64 a0_1) ∧ w'.cell? ⟨gb123, 2, none⟩ = some (.int .i64 a0_2) ∧ w'.cell? ⟨gb123, 3, none⟩ = some (.string a0_3) ∧ w'.cell? ⟨gb123, 4, none⟩ = some (.string a0_4)) (ds := []) #[false, false, false, false, false, false, false, false, false, false, false, false, false, false, false] (by kernel_rfl) rfl rfl ⟨(xC_ BK123.out 0).trans rfl, (xC_ BK123.out 1).trans rfl, (xC_ BK123.out 2).trans rfl, (xC_ BK123.out 3).trans rfl, (xC_ BK123.out 4).trans rfl⟩ (fun hHeld => ?_); refine with_tabW ver_Text.tab3 ver_Text.bits3 (fun HT_ HW_ => ?_)
             generalize w47.drew = w48 at BK123 HB hHeld ⊢
             refine pure_ (i := 0) (N := some 7) (v := ?_) (a' := ?_) #[true, false, false, false, false, false, false, false, false, false, false, false, false, false, false] rfl rfl (any_of HT_.out (by kernel_rfl)) (fun _ _ _ h => h) (Or.inl ⟨by rfl, ?_⟩) ?_ ?_
             rotate_left
             ·intro w'
              go_simp
              with_reducible rfl
             rotate_left
             ·simp only [Act.put, List.setIfInBounds_toArray, List.set_cons_zero, List.set_cons_succ, i64_w, i32_w]
              rfl
             refine pure_ (i := 5) (N := some 12) (v := ?_) (a' := ?_) #[true, false, false, false, false, true, false, false, false, false, false, false, false, false, false] rfl rfl (any_of HT_.out (by kernel_rfl)) (fun _ _ _ h => h) (Or.inl ⟨by rfl, ?_⟩) ?_ ?_
             rotate_left
             ·intro w'
              go_simp
              with_reducible rfl
             rotate_left
             ·simp only [Act.put, List.setIfInBounds_toArray, List.set_cons_zero, List.set_cons_succ, i64_w, i32_w]
              rfl
             refine pure_ (i := 10) (N := some 17) (v := ?_) (a' := ?_) #[true, false, false, false, false, true, false, false, false, false, true, false, false, false, false] rfl rfl (any_of HT_.out (by kernel_rfl)) (fun _ _ _ h => h) (Or.inl ⟨by rfl, ?_⟩) ?_ ?_
             rotate_left
             ·intro w'
              go_simp
              with_reducible rfl
             rotate_left
             ·simp only [Act.put, List.setIfInBounds_toArray, List.set_cons_zero, List.set_cons_succ, i64_w, i32_w]
              rfl
             refine take_ (i := 1) (N := some 8) (v := ?_) (a' := ?_) #[true, true, false, false, false, true, false, false, false, false, true, false, false, false, false] rfl rfl (take_ofW HT_.out HW_.out (by kernel_rfl)) (fun _ _ _ h => h) (Or.inl ⟨by rfl, ?_⟩) hHeld ?_ ?_
             rotate_left
             ·rintro w' ⟨s0, s1, s2, s3, s4⟩
              go_simp
              with_reducible rfl
             rotate_left
             ·simp only [Act.put, List.setIfInBounds_toArray, List.set_cons_zero, List.set_cons_succ, i64_w, i32_w]
              rfl
             refine take_ (i := 6) (N := some 13) (v := ?_) (a' := ?_) #[true, true, false, false, false, true, true, false, false, false, true, false, false, false, false] rfl rfl (take_ofW HT_.out HW_.out (by kernel_rfl)) (fun _ _ _ h => h) (Or.inl ⟨by rfl, ?_⟩) hHeld ?_ ?_
             rotate_left
             ·rintro w' ⟨s0, s1, s2, s3, s4⟩
              go_simp
              with_reducible rfl
             rotate_left
             ·simp only [Act.put, List.setIfInBounds_toArray, List.set_cons_zero, List.set_cons_succ, i64_w, i32_w]
              rfl
             refine take_ (i := 11) (N := some 18) (v := ?_) (a' := ?_) #[true, true, false, false, false, true, true, false, false, false, true, true, false, false, false] rfl rfl (take_ofW HT_.out HW_.out (by kernel_rfl)) (fun _ _ _ h => h) (Or.inl ⟨by rfl, ?_⟩) hHeld ?_ ?_
             rotate_left
             ·rintro w' ⟨s0, s1, s2, s3, s4⟩
              go_simp
              with_reducible rfl
             rotate_left
             ·simp only [Act.put, List.setIfInBounds_toArray, List.set_cons_zero, List.set_cons_succ, i64_w, i32_w]
              rfl
             refine one_ (i := 2) (N := some 9) #[true, true, true, false, false, true, true, false, false, false, true, true, false, false, false] rfl rfl (one_of HT_.out (by kernel_rfl)) (by decide) (fun K hK => ?_)
             refine goes_ Tryd.func36 (by kernel_rfl) rfl #[.int .i64 a0_0] (by rfl) rfl rfl (by (try simp only [List.map_toArray, List.map_cons, List.map_nil]); first | done | rfl) ?_
             with_reducible refine (strconv_Itoa.calls a0_0 t125 _ A4.out (LW0 := LW.out.below (by repeat (first | (with_reducible first | exact HB.out | apply yA_ | apply yN_ | apply yD_ | refine yS_ ?_ GE123.out) | exact HB.out)))).mono ?_
             rintro e w49 ⟨rfl, hb⟩
             refine ⟨_, rfl, ?_⟩
             have n0_ := Aside0.mk (blk_below (g := gb123) (o := .cells #[.int .i64 a0_0, .int .i64 a0_1, .int .i64 a0_2, .string a0_3, .string a0_4] 23 (0, 0)) (by (with_reducible repeat (first | apply xN_ | apply xD_ | apply xA_)); exact BK123.out) hb)
             have n1_ := Aside0.mk (below_step (by repeat (first | (with_reducible first | exact HB.out | apply yA_ | apply yN_ | apply yD_ | refine yS_ ?_ GE123.out) | exact HB.out)) hb)
             clear BK123
             clear HB
             have BK123 := n0_
             have HB := n1_
             clear n0_ n1_
             (try clear hb)
             (try clear hb2)
             (try clear hk)
             (try clear hi)
             refine hK.out _ _ ⟨(xC_ BK123.out 0).trans rfl, (xC_ BK123.out 1).trans rfl, (xC_ BK123.out 2).trans rfl, (xC_ BK123.out 3).trans rfl, (xC_ BK123.out 4).trans rfl⟩ (fun hHeld => ?_)
             clear hK K
             refine norm_ (a' := ?_) ?_ ?_
             rotate_left
             ·show Act.put _ (some 9) _ = _
              simp only [Act.put, List.setIfInBounds_toArray, List.set_cons_zero, List.set_cons_succ, i64_w, i32_w]
              rfl
             refine pure_ (i := 3) (N := some 10) (v := ?_) (a' := ?_) #[true, true, true, true, false, true, true, false, false, false, true, true, false, false, false] rfl rfl (any_of HT_.out (by kernel_rfl)) (fun _ _ _ h => h) (Or.inl ⟨by rfl, ?_⟩) ?_ ?_
             rotate_left
             ·intro w'
              go_simp
              with_reducible rfl
             rotate_left
             ·simp only [Act.put, List.setIfInBounds_toArray, List.set_cons_zero, List.set_cons_succ, i64_w, i32_w]
              rfl
             refine pure_ (i := 4) (N := some 11) (v := ?_) (a' := ?_) #[true, true, true, true, true, true, true, false, false, false, true, true, false, false, false] rfl rfl (any_of HT_.out (by kernel_rfl)) (fun _ _ _ h => h) (Or.inl ⟨by rfl, ?_⟩) ?_ ?_
             rotate_left
             ·intro w'
              go_simp
              with_reducible rfl
             rotate_left
             ·simp only [Act.put, List.setIfInBounds_toArray, List.set_cons_zero, List.set_cons_succ, i64_w, i32_w]
              rfl
             refine one_ (i := 7) (N := some 14) #[true, true, true, true, true, true, true, true, false, false, true, true, false, false, false] rfl rfl (one_of HT_.out (by kernel_rfl)) (by decide) (fun K hK => ?_)
             refine goes_ Tryd.func36 (by kernel_rfl) rfl #[.int .i64 a0_1] (by rfl) rfl rfl (by (try simp only [List.map_toArray, List.map_cons, List.map_nil]); first | done | rfl) ?_
             with_reducible refine (strconv_Itoa.calls a0_1 t126 _ A7.out (LW0 := LW.out.below (by repeat (first | (with_reducible first | exact HB.out | apply yA_ | apply yN_ | apply yD_ | refine yS_ ?_ GE123.out) | exact HB.out)))).mono ?_
             rintro e w50 ⟨rfl, hb⟩
             refine ⟨_, rfl, ?_⟩
             have n0_ := Aside0.mk (blk_below (g := gb123) (o := .cells #[.int .i64 a0_0, .int .i64 a0_1, .int .i64 a0_2, .string a0_3, .string a0_4] 23 (0, 0)) (by (with_reducible repeat (first | apply xN_ | apply xD_ | apply xA_)); exact BK123.out) hb)
             have n1_ := Aside0.mk (below_step (by repeat (first | (with_reducible first | exact HB.out | apply yA_ | apply yN_ | apply yD_ | refine yS_ ?_ GE123.out) | exact HB.out)) hb)
             clear BK123
             clear HB
             have BK123 := n0_
             have HB := n1_
             clear n0_ n1_
             (try clear hb)
             (try clear hb2)
             (try clear hk)
             (try clear hi)
             refine hK.out _ _ ⟨(xC_ BK123.out 0).trans rfl, (xC_ BK123.out 1).trans rfl, (xC_ BK123.out 2).trans rfl, (xC_ BK123.out 3).trans rfl, (xC_ BK123.out 4).trans rfl⟩ (fun hHeld => ?_)
             clear hK K
             refine norm_ (a' := ?_) ?_ ?_
             rotate_left
             ·show Act.put _ (some 14) _ = _
              simp only [Act.put, List.setIfInBounds_toArray, List.set_cons_zero, List.set_cons_succ, i64_w, i32_w]
              rfl
             refine pure_ (i := 8) (N := some 15) (v := ?_) (a' := ?_) #[true, true, true, true, true, true, true, true, true, false, true, true, false, false, false] rfl rfl (any_of HT_.out (by kernel_rfl)) (fun _ _ _ h => h) (Or.inl ⟨by rfl, ?_⟩) ?_ ?_
             rotate_left
             ·intro w'
              go_simp
              with_reducible rfl
             rotate_left
             ·simp only [Act.put, List.setIfInBounds_toArray, List.set_cons_zero, List.set_cons_succ, i64_w, i32_w]
              rfl
             refine pure_ (i := 9) (N := some 16) (v := ?_) (a' := ?_) #[true, true, true, true, true, true, true, true, true, true, true, true, false, false, false] rfl rfl (any_of HT_.out (by kernel_rfl)) (fun _ _ _ h => h) (Or.inl ⟨by rfl, ?_⟩) ?_ ?_
             rotate_left
             ·intro w'
              go_simp
              with_reducible rfl
             rotate_left
             ·simp only [Act.put, List.setIfInBounds_toArray, List.set_cons_zero, List.set_cons_succ, i64_w, i32_w]
              rfl
             refine one_ (i := 12) (N := some 19) #[true, true, true, true, true, true, true, true, true, true, true, true, true, false, false] rfl rfl (one_of HT_.out (by kernel_rfl)) (by decide) (fun K hK => ?_)
             refine goes_ Tryd.func36 (by kernel_rfl) rfl #[.int .i64 a0_2] (by rfl) rfl rfl (by (try simp only [List.map_toArray, List.map_cons, List.map_nil]); first | done | rfl) ?_
             with_reducible refine (strconv_Itoa.calls a0_2 t127 _ A10.out (LW0 := LW.out.below (by repeat (first | (with_reducible first | exact HB.out | apply yA_ | apply yN_ | apply yD_ | refine yS_ ?_ GE123.out) | exact HB.out)))).mono ?_
             rintro e w51 ⟨rfl, hb⟩
             refine ⟨_, rfl, ?_⟩
             have n0_ := Aside0.mk (blk_below (g := gb123) (o := .cells #[.int .i64 a0_0, .int .i64 a0_1, .int .i64 a0_2, .string a0_3, .string a0_4] 23 (0, 0)) (by (with_reducible repeat (first | apply xN_ | apply xD_ | apply xA_)); exact BK123.out) hb)
             have n1_ := Aside0.mk (below_step (by repeat (first | (with_reducible first | exact HB.out | apply yA_ | apply yN_ | apply yD_ | refine yS_ ?_ GE123.out) | exact HB.out)) hb)
             clear BK123
             clear HB
             have BK123 := n0_
             have HB := n1_
             clear n0_ n1_
             (try clear hb)
             (try clear hb2)
             (try clear hk)
             (try clear hi)
             refine hK.out _ _ ⟨(xC_ BK123.out 0).trans rfl, (xC_ BK123.out 1).trans rfl, (xC_ BK123.out 2).trans rfl, (xC_ BK123.out 3).trans rfl, (xC_ BK123.out 4).trans rfl⟩ (fun hHeld => ?_)
             clear hK K
             refine norm_ (a' := ?_) ?_ ?_
             rotate_left
             ·show Act.put _ (some 19) _ = _
              simp only [Act.put, List.setIfInBounds_toArray, List.set_cons_zero, List.set_cons_succ, i64_w, i32_w]
              rfl
             refine pure_ (i := 13) (N := some 20) (v := ?_) (a' := ?_) #[true, true, true, true, true, true, true, true, true, true, true, true, true, true, false] rfl rfl (any_of HT_.out (by kernel_rfl)) (fun _ _ _ h => h) (Or.inl ⟨by rfl, ?_⟩) ?_ ?_
             rotate_left
             ·intro w'
              go_simp
              with_reducible rfl
             rotate_left
             ·simp only [Act.put, List.setIfInBounds_toArray, List.set_cons_zero, List.set_cons_succ, i64_w, i32_w]
              rfl
             refine pure_ (i := 14) (N := some 3) (v := ?_) (a' := ?_) #[true, true, true, true, true, true, true, true, true, true, true, true, true, true, true] rfl rfl (any_of HT_.out (by kernel_rfl)) (fun _ _ _ h => h) (Or.inl ⟨by rfl, ?_⟩) ?_ ?_
             rotate_left
             ·intro w'
              go_simp
              with_reducible rfl
             rotate_left
             ·simp only [Act.put, List.setIfInBounds_toArray, List.set_cons_zero, List.set_cons_succ, i64_w, i32_w]
              rfl
             refine done_ (done_of HT_.out (by kernel_rfl)) ?_
             have hcz52_0 : w51.cell? ⟨gb123, 0, none⟩ = some (.int .i64 a0_0) := (xC_ BK123.out 0).trans rfl
             have hcz52_1 : w51.cell? ⟨gb123, 1, none⟩ = some (.int .i64 a0_1) := (xC_ BK123.out 1).trans rfl
             have hcz52_2 : w51.cell? ⟨gb123, 2, none⟩ = some (.int .i64 a0_2) := (xC_ BK123.out 2).trans rfl
             have hcz52_3 : w51.cell? ⟨gb123, 3, none⟩ = some (.string a0_3) := (xC_ BK123.out 3).trans rfl
             have hcz52_4 : w51.cell? ⟨gb123, 4, none⟩ = some (.string a0_4) := (xC_ BK123.out 4).trans rfl
             have hfz52_0 := xF_ BK123.out 0
             have hfz52_1 := xF_ BK123.out 1
             have hfz52_2 := xF_ BK123.out 2
             have hfz52_3 := xF_ BK123.out 3
             have hfz52_4 := xF_ BK123.out 4
             try go_wp2
             go_ret
             exact ⟨by first | rfl | (simp [errW_none, errW_some] <;> rfl) | (simp [*, errW_none, errW_some] <;> rfl), by repeat (first | (with_reducible first | exact HB.out | apply yA_ | apply yN_ | apply yD_ | refine yS_ ?_ GE123.out) | exact HB.out)⟩
            ·rw [if_neg c44] at H
             exact absurd H (by simp)
           ·rw [if_neg c43] at H
            exact absurd H (by simp)
         ·rw [if_neg c33] at H
          exact absurd H (by simp)
        ·rw [if_neg c32] at H
         exact absurd H (by simp)
      ·rw [if_neg c11] at H
       exact absurd H (by simp)
     ·rw [if_neg c9] at H
      exact absurd H (by simp)
    ·rw [if_neg c8] at H
     exact absurd H (by simp)
   ·rw [if_neg c6] at H
    exact absurd H (by simp)
  ·rw [if_neg c5] at H
   exact absurd H (by simp)
 ·replace c3 := Bool.eq_false_iff.mpr c3
  subst c3
  have H1 : (some (⟨#[]⟩ : ByteArray)) = some r := by rw [if_neg (show ¬ (false = true) by decide)] at H; exact H
  clear H
  have H := H1
  clear H1
  obtain rfl := Option.some.inj H
  go_enter Tryd.func15, Tryd.ntmps15
  go_wp2_with (first | ((with_reducible refine gate_dst (N := 1) rfl ?_); refine box_event ?hg (N := 1) ?hd (cs := #[.int .i64 a0_0, .int .i64 a0_1, .int .i64 a0_2, .string a0_3, .string a0_4]) (t := 23) ?hr ?_; (case hd => rfl); (case hg => rfl); (case hr => first | (go_simp; done) | (go_simp; rfl)); intro gb123 hg w53 hbox hb; have n0_ := Aside0.mk (below_step (by repeat (first | (with_reducible first | exact HB.out | apply yA_ | apply yN_ | apply yD_) | exact HB.out)) hb); have n1_ := Aside0.mk (hbox); have n2_ := Aside0.mk ((by rw [hg]; exact (below_size (by repeat (first | (with_reducible first | exact HB.out | apply yA_ | apply yN_ | apply yD_) | exact HB.out))) : w.heap.size ≤ gb123)); have n3_ := Aside0.mk ((by rw [hg]; exact (below_size (by repeat (first | (with_reducible first | exact HB.out | apply yA_ | apply yN_ | apply yD_) | exact HB.out))) : w.heap.size ≤ gb123)); clear HB; have HB := n0_; have BK123 := n1_; have GW123 := n2_; have GE123 := n3_; clear n0_ n1_ n2_ n3_; clear hb hbox hg; have hcz54_0 : w53.cell? ⟨gb123, 0, none⟩ = some (.int .i64 a0_0) := (xC_ BK123.out 0).trans rfl; have hcz54_1 : w53.cell? ⟨gb123, 1, none⟩ = some (.int .i64 a0_1) := (xC_ BK123.out 1).trans rfl; have hcz54_2 : w53.cell? ⟨gb123, 2, none⟩ = some (.int .i64 a0_2) := (xC_ BK123.out 2).trans rfl; have hcz54_3 : w53.cell? ⟨gb123, 3, none⟩ = some (.string a0_3) := (xC_ BK123.out 3).trans rfl; have hcz54_4 : w53.cell? ⟨gb123, 4, none⟩ = some (.string a0_4) := (xC_ BK123.out 4).trans rfl; have hfz54_0 := xF_ BK123.out 0; have hfz54_1 := xF_ BK123.out 1; have hfz54_2 := xF_ BK123.out 2; have hfz54_3 := xF_ BK123.out 3; have hfz54_4 := xF_ BK123.out 4) | ((with_reducible refine gate_callee (f := 13) rfl ?_); refine goesL_ (some 5) rfl rfl Tryd.func13 (by kernel_rfl) rfl #[.agg #[.int .i64 a0_0, .int .i64 a0_1, .int .i64 a0_2, .string a0_3, .string a0_4]] rfl (by (try simp only [List.map_toArray, List.map_cons, List.map_nil]); first | done | rfl) ?_; (with_reducible refine (ver_Check.calls a0_0 a0_1 a0_2 a0_3 a0_4 false _ A2.out).mono ?_); rintro e w55 ⟨rfl, hb⟩; refine ⟨_, rfl, ?_⟩; have n0_ := Aside0.mk (blk_below (g := gb123) (o := .cells #[.int .i64 a0_0, .int .i64 a0_1, .int .i64 a0_2, .string a0_3, .string a0_4] 23 (0, 0)) (by (with_reducible repeat (first | apply xN_ | apply xD_ | apply xA_)); exact BK123.out) hb); have n1_ := Aside0.mk (below_step (by repeat (first | (with_reducible first | exact HB.out | apply yA_ | apply yN_ | apply yD_ | refine yS_ ?_ GE123.out) | exact HB.out)) hb); clear BK123; clear HB; have BK123 := n0_; have HB := n1_; clear n0_ n1_; (try clear hb); (try clear hb2); (try clear hk); (try clear hi)))
  go_ret
  exact ⟨by first | rfl | (simp [errW_none, errW_some] <;> rfl) | (simp [*, errW_none, errW_some] <;> rfl), by repeat (first | (with_reducible first | exact HB.out | apply yA_ | apply yN_ | apply yD_ | refine yS_ ?_ GE123.out) | exact HB.out)⟩
end Go.Proofs.YthoiepkejhhcoaaDoor.P
