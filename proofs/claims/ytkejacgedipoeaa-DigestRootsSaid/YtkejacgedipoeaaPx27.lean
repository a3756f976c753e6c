-- PRINTED by print.py (a twelfth state) out of the translation. Not trusted: Lean checks it.
import Derived.Test.YtkejacgedipoeaaPx0
import Derived.Test.YtkejacgedipoeaaDBlock
import Derived.Test.YtkejacgedipoeaaDHex
import Derived.Test.YtkejacgedipoeaaDOf
import Derived.Test.YtkejacgedipoeaaDPad
namespace Go.Proofs.Ytkejacgedipoeaa.P
open Go.RowKit Go.Proofs.YtkejacgedipoeaaW.PrintWords Go.Proofs.YtkejacgedipoeaaW.PrintLast Go.Proofs.YtkejacgedipoeaaW.PrintMore
attribute [local go_sem] max2_int min2_int max_two min_two max_three min_three max_four min_four   -- for this text's walks alone
set_option linter.unusedVariables false
set_option linter.unusedSimpArgs false

/-! ### armadalaw12_live: function 8 -/
def armadalaw12_live.f  : Option (Bool) := (digest_Block.f (⟨#[]⟩ : ByteArray) (⟨#[]⟩ : ByteArray)).bind fun bt104 => ((digest_Of.f (⟨#[]⟩ : ByteArray)).bind fun t106 => ((digest_Hex.f t106).bind fun t107 => (if t107.toList = ([101, 51, 98, 48, 99, 52, 52, 50, 57, 56, 102, 99, 49, 99, 49, 52, 57, 97, 102, 98, 102, 52, 99, 56, 57, 57, 54, 102, 98, 57, 50, 52, 50, 55, 97, 101, 52, 49, 101, 52, 54, 52, 57, 98, 57, 51, 52, 99, 97, 52, 57, 53, 57, 57, 49, 98, 55, 56, 53, 50, 98, 56, 53, 53] : List UInt8) then ((digest_Of.f (⟨#[97, 98, 99]⟩ : ByteArray)).bind fun t108 => ((digest_Hex.f t108).bind fun t109 => (if t109.toList = ([98, 97, 55, 56, 49, 54, 98, 102, 56, 102, 48, 49, 99, 102, 101, 97, 52, 49, 52, 49, 52, 48, 100, 101, 53, 100, 97, 101, 50, 50, 50, 51, 98, 48, 48, 51, 54, 49, 97, 51, 57, 54, 49, 55, 55, 97, 57, 99, 98, 52, 49, 48, 102, 102, 54, 49, 102, 50, 48, 48, 49, 53, 97, 100] : List UInt8) then (if bt104.2 = true then (some false) else ((digest_Pad.f 0).bind fun t110 => (if (t110.size : Int) = 64 then ((digest_Pad.f 55).bind fun t111 => (if (t111.size : Int) = 9 then ((digest_Pad.f 56).bind fun t112 => (if (t112.size : Int) = 72 then ((digest_Pad.f (-1)).bind fun t113 => (if t113.toList = ([] : List UInt8) then ((digest_Hex.f (⟨#[0, 175]⟩ : ByteArray)).bind fun t114 => (some (t114.toList == ([48, 48, 97, 102] : List UInt8)))) else (some false))) else (some false))) else (some false))) else (some false)))) else (some false)))) else (some false))))
set_option maxHeartbeats 8000000 in
set_option maxRecDepth 100000 in
theorem armadalaw12_live.calls  (r : Bool) (w : World) (h : armadalaw12_live.f  = some r) (hT_ : r = true := by rfl) :
    Calls Try.prog 8 #[] w fun e w' => e = .returned (.bool r) ∧ Below w.heap.size w w' := by
  subst hT_
  have HB := Aside0.mk (Below.refl w.heap.size w)
  have H : ((digest_Block.f (⟨#[]⟩ : ByteArray) (⟨#[]⟩ : ByteArray)).bind fun bt104 => ((digest_Of.f (⟨#[]⟩ : ByteArray)).bind fun t106 => ((digest_Hex.f t106).bind fun t107 => (if t107.toList = ([101, 51, 98, 48, 99, 52, 52, 50, 57, 56, 102, 99, 49, 99, 49, 52, 57, 97, 102, 98, 102, 52, 99, 56, 57, 57, 54, 102, 98, 57, 50, 52, 50, 55, 97, 101, 52, 49, 101, 52, 54, 52, 57, 98, 57, 51, 52, 99, 97, 52, 57, 53, 57, 57, 49, 98, 55, 56, 53, 50, 98, 56, 53, 53] : List UInt8) then ((digest_Of.f (⟨#[97, 98, 99]⟩ : ByteArray)).bind fun t108 => ((digest_Hex.f t108).bind fun t109 => (if t109.toList = ([98, 97, 55, 56, 49, 54, 98, 102, 56, 102, 48, 49, 99, 102, 101, 97, 52, 49, 52, 49, 52, 48, 100, 101, 53, 100, 97, 101, 50, 50, 50, 51, 98, 48, 48, 51, 54, 49, 97, 51, 57, 54, 49, 55, 55, 97, 57, 99, 98, 52, 49, 48, 102, 102, 54, 49, 102, 50, 48, 48, 49, 53, 97, 100] : List UInt8) then (if bt104.2 = true then (some false) else ((digest_Pad.f 0).bind fun t110 => (if (t110.size : Int) = 64 then ((digest_Pad.f 55).bind fun t111 => (if (t111.size : Int) = 9 then ((digest_Pad.f 56).bind fun t112 => (if (t112.size : Int) = 72 then ((digest_Pad.f (-1)).bind fun t113 => (if t113.toList = ([] : List UInt8) then ((digest_Hex.f (⟨#[0, 175]⟩ : ByteArray)).bind fun t114 => (some (t114.toList == ([48, 48, 97, 102] : List UInt8)))) else (some false))) else (some false))) else (some false))) else (some false)))) else (some false)))) else (some false))))) = some true := h
  clear h
  replace H := Option.bind_eq_some_iff.mp H
  obtain ⟨⟨t104, t105⟩, A10, H⟩ := H
  replace H : ((digest_Of.f (⟨#[]⟩ : ByteArray)).bind fun t106 => ((digest_Hex.f t106).bind fun t107 => (if t107.toList = ([101, 51, 98, 48, 99, 52, 52, 50, 57, 56, 102, 99, 49, 99, 49, 52, 57, 97, 102, 98, 102, 52, 99, 56, 57, 57, 54, 102, 98, 57, 50, 52, 50, 55, 97, 101, 52, 49, 101, 52, 54, 52, 57, 98, 57, 51, 52, 99, 97, 52, 57, 53, 57, 57, 49, 98, 55, 56, 53, 50, 98, 56, 53, 53] : List UInt8) then ((digest_Of.f (⟨#[97, 98, 99]⟩ : ByteArray)).bind fun t108 => ((digest_Hex.f t108).bind fun t109 => (if t109.toList = ([98, 97, 55, 56, 49, 54, 98, 102, 56, 102, 48, 49, 99, 102, 101, 97, 52, 49, 52, 49, 52, 48, 100, 101, 53, 100, 97, 101, 50, 50, 50, 51, 98, 48, 48, 51, 54, 49, 97, 51, 57, 54, 49, 55, 55, 97, 57, 99, 98, 52, 49, 48, 102, 102, 54, 49, 102, 50, 48, 48, 49, 53, 97, 100] : List UInt8) then (if t105 = true then (some false) else ((digest_Pad.f 0).bind fun t110 => (if (t110.size : Int) = 64 then ((digest_Pad.f 55).bind fun t111 => (if (t111.size : Int) = 9 then ((digest_Pad.f 56).bind fun t112 => (if (t112.size : Int) = 72 then ((digest_Pad.f (-1)).bind fun t113 => (if t113.toList = ([] : List UInt8) then ((digest_Hex.f (⟨#[0, 175]⟩ : ByteArray)).bind fun t114 => (some (t114.toList == ([48, 48, 97, 102] : List UInt8)))) else (some false))) else (some false))) else (some false))) else (some false)))) else (some false)))) else (some false)))) = some true := H
  have A1 := Aside0.mk A10
  clear A10
  replace H := Option.bind_eq_some_iff.mp H
  obtain ⟨t106, A20, H⟩ := H
  replace H : ((digest_Hex.f t106).bind fun t107 => (if t107.toList = ([101, 51, 98, 48, 99, 52, 52, 50, 57, 56, 102, 99, 49, 99, 49, 52, 57, 97, 102, 98, 102, 52, 99, 56, 57, 57, 54, 102, 98, 57, 50, 52, 50, 55, 97, 101, 52, 49, 101, 52, 54, 52, 57, 98, 57, 51, 52, 99, 97, 52, 57, 53, 57, 57, 49, 98, 55, 56, 53, 50, 98, 56, 53, 53] : List UInt8) then ((digest_Of.f (⟨#[97, 98, 99]⟩ : ByteArray)).bind fun t108 => ((digest_Hex.f t108).bind fun t109 => (if t109.toList = ([98, 97, 55, 56, 49, 54, 98, 102, 56, 102, 48, 49, 99, 102, 101, 97, 52, 49, 52, 49, 52, 48, 100, 101, 53, 100, 97, 101, 50, 50, 50, 51, 98, 48, 48, 51, 54, 49, 97, 51, 57, 54, 49, 55, 55, 97, 57, 99, 98, 52, 49, 48, 102, 102, 54, 49, 102, 50, 48, 48, 49, 53, 97, 100] : List UInt8) then (if t105 = true then (some false) else ((digest_Pad.f 0).bind fun t110 => (if (t110.size : Int) = 64 then ((digest_Pad.f 55).bind fun t111 => (if (t111.size : Int) = 9 then ((digest_Pad.f 56).bind fun t112 => (if (t112.size : Int) = 72 then ((digest_Pad.f (-1)).bind fun t113 => (if t113.toList = ([] : List UInt8) then ((digest_Hex.f (⟨#[0, 175]⟩ : ByteArray)).bind fun t114 => (some (t114.toList == ([48, 48, 97, 102] : List UInt8)))) else (some false))) else (some false))) else (some false))) else (some false)))) else (some false)))) else (some false))) = some true := H
  have A2 := Aside0.mk A20
  clear A20
  replace H := Option.bind_eq_some_iff.mp H
  obtain ⟨t107, A30, H⟩ := H
  replace H : (if t107.toList = ([101, 51, 98, 48, 99, 52, 52, 50, 57, 56, 102, 99, 49, 99, 49, 52, 57, 97, 102, 98, 102, 52, 99, 56, 57, 57, 54, 102, 98, 57, 50, 52, 50, 55, 97, 101, 52, 49, 101, 52, 54, 52, 57, 98, 57, 51, 52, 99, 97, 52, 57, 53, 57, 57, 49, 98, 55, 56, 53, 50, 98, 56, 53, 53] : List UInt8) then ((digest_Of.f (⟨#[97, 98, 99]⟩ : ByteArray)).bind fun t108 => ((digest_Hex.f t108).bind fun t109 => (if t109.toList = ([98, 97, 55, 56, 49, 54, 98, 102, 56, 102, 48, 49, 99, 102, 101, 97, 52, 49, 52, 49, 52, 48, 100, 101, 53, 100, 97, 101, 50, 50, 50, 51, 98, 48, 48, 51, 54, 49, 97, 51, 57, 54, 49, 55, 55, 97, 57, 99, 98, 52, 49, 48, 102, 102, 54, 49, 102, 50, 48, 48, 49, 53, 97, 100] : List UInt8) then (if t105 = true then (some false) else ((digest_Pad.f 0).bind fun t110 => (if (t110.size : Int) = 64 then ((digest_Pad.f 55).bind fun t111 => (if (t111.size : Int) = 9 then ((digest_Pad.f 56).bind fun t112 => (if (t112.size : Int) = 72 then ((digest_Pad.f (-1)).bind fun t113 => (if t113.toList = ([] : List UInt8) then ((digest_Hex.f (⟨#[0, 175]⟩ : ByteArray)).bind fun t114 => (some (t114.toList == ([48, 48, 97, 102] : List UInt8)))) else (some false))) else (some false))) else (some false))) else (some false)))) else (some false)))) else (some false)) = some true := H
  have A3 := Aside0.mk A30
  clear A30
  by_cases c4 : t107.toList = ([101, 51, 98, 48, 99, 52, 52, 50, 57, 56, 102, 99, 49, 99, 49, 52, 57, 97, 102, 98, 102, 52, 99, 56, 57, 57, 54, 102, 98, 57, 50, 52, 50, 55, 97, 101, 52, 49, 101, 52, 54, 52, 57, 98, 57, 51, 52, 99, 97, 52, 57, 53, 57, 57, 49, 98, 55, 56, 53, 50, 98, 56, 53, 53] : List UInt8)
  · rw [if_pos c4] at H
    have c4b0 : (t107.toList == ([101, 51, 98, 48, 99, 52, 52, 50, 57, 56, 102, 99, 49, 99, 49, 52, 57, 97, 102, 98, 102, 52, 99, 56, 57, 57, 54, 102, 98, 57, 50, 52, 50, 55, 97, 101, 52, 49, 101, 52, 54, 52, 57, 98, 57, 51, 52, 99, 97, 52, 57, 53, 57, 57, 49, 98, 55, 56, 53, 50, 98, 56, 53, 53] : List UInt8)) = true := beq_iff_eq.mpr c4
    have c4b1 : (t107.toList != ([101, 51, 98, 48, 99, 52, 52, 50, 57, 56, 102, 99, 49, 99, 49, 52, 57, 97, 102, 98, 102, 52, 99, 56, 57, 57, 54, 102, 98, 57, 50, 52, 50, 55, 97, 101, 52, 49, 101, 52, 54, 52, 57, 98, 57, 51, 52, 99, 97, 52, 57, 53, 57, 57, 49, 98, 55, 56, 53, 50, 98, 56, 53, 53] : List UInt8)) = false := bne_eq_false_iff_eq.mpr c4
    clear c4
    replace H := Option.bind_eq_some_iff.mp H
    obtain ⟨t108, A50, H⟩ := H
    replace H : ((digest_Hex.f t108).bind fun t109 => (if t109.toList = ([98, 97, 55, 56, 49, 54, 98, 102, 56, 102, 48, 49, 99, 102, 101, 97, 52, 49, 52, 49, 52, 48, 100, 101, 53, 100, 97, 101, 50, 50, 50, 51, 98, 48, 48, 51, 54, 49, 97, 51, 57, 54, 49, 55, 55, 97, 57, 99, 98, 52, 49, 48, 102, 102, 54, 49, 102, 50, 48, 48, 49, 53, 97, 100] : List UInt8) then (if t105 = true then (some false) else ((digest_Pad.f 0).bind fun t110 => (if (t110.size : Int) = 64 then ((digest_Pad.f 55).bind fun t111 => (if (t111.size : Int) = 9 then ((digest_Pad.f 56).bind fun t112 => (if (t112.size : Int) = 72 then ((digest_Pad.f (-1)).bind fun t113 => (if t113.toList = ([] : List UInt8) then ((digest_Hex.f (⟨#[0, 175]⟩ : ByteArray)).bind fun t114 => (some (t114.toList == ([48, 48, 97, 102] : List UInt8)))) else (some false))) else (some false))) else (some false))) else (some false)))) else (some false))) = some true := H
    have A5 := Aside0.mk A50
    clear A50
    replace H := Option.bind_eq_some_iff.mp H
    obtain ⟨t109, A60, H⟩ := H
    replace H : (if t109.toList = ([98, 97, 55, 56, 49, 54, 98, 102, 56, 102, 48, 49, 99, 102, 101, 97, 52, 49, 52, 49, 52, 48, 100, 101, 53, 100, 97, 101, 50, 50, 50, 51, 98, 48, 48, 51, 54, 49, 97, 51, 57, 54, 49, 55, 55, 97, 57, 99, 98, 52, 49, 48, 102, 102, 54, 49, 102, 50, 48, 48, 49, 53, 97, 100] : List UInt8) then (if t105 = true then (some false) else ((digest_Pad.f 0).bind fun t110 => (if (t110.size : Int) = 64 then ((digest_Pad.f 55).bind fun t111 => (if (t111.size : Int) = 9 then ((digest_Pad.f 56).bind fun t112 => (if (t112.size : Int) = 72 then ((digest_Pad.f (-1)).bind fun t113 => (if t113.toList = ([] : List UInt8) then ((digest_Hex.f (⟨#[0, 175]⟩ : ByteArray)).bind fun t114 => (some (t114.toList == ([48, 48, 97, 102] : List UInt8)))) else (some false))) else (some false))) else (some false))) else (some false)))) else (some false)) = some true := H
    have A6 := Aside0.mk A60
    clear A60
    by_cases c7 : t109.toList = ([98, 97, 55, 56, 49, 54, 98, 102, 56, 102, 48, 49, 99, 102, 101, 97, 52, 49, 52, 49, 52, 48, 100, 101, 53, 100, 97, 101, 50, 50, 50, 51, 98, 48, 48, 51, 54, 49, 97, 51, 57, 54, 49, 55, 55, 97, 57, 99, 98, 52, 49, 48, 102, 102, 54, 49, 102, 50, 48, 48, 49, 53, 97, 100] : List UInt8)
    · rw [if_pos c7] at H
      have c7b0 : (t109.toList == ([98, 97, 55, 56, 49, 54, 98, 102, 56, 102, 48, 49, 99, 102, 101, 97, 52, 49, 52, 49, 52, 48, 100, 101, 53, 100, 97, 101, 50, 50, 50, 51, 98, 48, 48, 51, 54, 49, 97, 51, 57, 54, 49, 55, 55, 97, 57, 99, 98, 52, 49, 48, 102, 102, 54, 49, 102, 50, 48, 48, 49, 53, 97, 100] : List UInt8)) = true := beq_iff_eq.mpr c7
      have c7b1 : (t109.toList != ([98, 97, 55, 56, 49, 54, 98, 102, 56, 102, 48, 49, 99, 102, 101, 97, 52, 49, 52, 49, 52, 48, 100, 101, 53, 100, 97, 101, 50, 50, 50, 51, 98, 48, 48, 51, 54, 49, 97, 51, 57, 54, 49, 55, 55, 97, 57, 99, 98, 52, 49, 48, 102, 102, 54, 49, 102, 50, 48, 48, 49, 53, 97, 100] : List UInt8)) = false := bne_eq_false_iff_eq.mpr c7
      clear c7
      by_cases c8 : t105 = true
      · subst c8
        have H1 : (some false) = some true := by rw [if_pos rfl] at H; exact H
        clear H
        have H := H1
        clear H1
        exact absurd H (by simp)
      · replace c8 := Bool.eq_false_iff.mpr c8
        subst c8
        have H1 : ((digest_Pad.f 0).bind fun t110 => (if (t110.size : Int) = 64 then ((digest_Pad.f 55).bind fun t111 => (if (t111.size : Int) = 9 then ((digest_Pad.f 56).bind fun t112 => (if (t112.size : Int) = 72 then ((digest_Pad.f (-1)).bind fun t113 => (if t113.toList = ([] : List UInt8) then ((digest_Hex.f (⟨#[0, 175]⟩ : ByteArray)).bind fun t114 => (some (t114.toList == ([48, 48, 97, 102] : List UInt8)))) else (some false))) else (some false))) else (some false))) else (some false))) = some true := by rw [if_neg (show ¬ (false = true) by decide)] at H; exact H
        clear H
        have H := H1
        clear H1
        replace H := Option.bind_eq_some_iff.mp H
        obtain ⟨t110, A90, H⟩ := H
        replace H : (if (t110.size : Int) = 64 then ((digest_Pad.f 55).bind fun t111 => (if (t111.size : Int) = 9 then ((digest_Pad.f 56).bind fun t112 => (if (t112.size : Int) = 72 then ((digest_Pad.f (-1)).bind fun t113 => (if t113.toList = ([] : List UInt8) then ((digest_Hex.f (⟨#[0, 175]⟩ : ByteArray)).bind fun t114 => (some (t114.toList == ([48, 48, 97, 102] : List UInt8)))) else (some false))) else (some false))) else (some false))) else (some false)) = some true := H
        have A9 := Aside0.mk A90
        clear A90
        by_cases c10 : (t110.size : Int) = 64
        · rw [if_pos c10] at H
          have c10b0 : ((t110.size : Int) == 64) = true := beq_iff_eq.mpr c10
          have c10b1 : ((t110.size : Int) != 64) = false := bne_eq_false_iff_eq.mpr c10
          clear c10
          replace H := Option.bind_eq_some_iff.mp H
          obtain ⟨t111, A110, H⟩ := H
          replace H : (if (t111.size : Int) = 9 then ((digest_Pad.f 56).bind fun t112 => (if (t112.size : Int) = 72 then ((digest_Pad.f (-1)).bind fun t113 => (if t113.toList = ([] : List UInt8) then ((digest_Hex.f (⟨#[0, 175]⟩ : ByteArray)).bind fun t114 => (some (t114.toList == ([48, 48, 97, 102] : List UInt8)))) else (some false))) else (some false))) else (some false)) = some true := H
          have A11 := Aside0.mk A110
          clear A110
          by_cases c12 : (t111.size : Int) = 9
          · rw [if_pos c12] at H
            have c12b0 : ((t111.size : Int) == 9) = true := beq_iff_eq.mpr c12
            have c12b1 : ((t111.size : Int) != 9) = false := bne_eq_false_iff_eq.mpr c12
            clear c12
            replace H := Option.bind_eq_some_iff.mp H
            obtain ⟨t112, A130, H⟩ := H
            replace H : (if (t112.size : Int) = 72 then ((digest_Pad.f (-1)).bind fun t113 => (if t113.toList = ([] : List UInt8) then ((digest_Hex.f (⟨#[0, 175]⟩ : ByteArray)).bind fun t114 => (some (t114.toList == ([48, 48, 97, 102] : List UInt8)))) else (some false))) else (some false)) = some true := H
            have A13 := Aside0.mk A130
            clear A130
            by_cases c14 : (t112.size : Int) = 72
            · rw [if_pos c14] at H
              have c14b0 : ((t112.size : Int) == 72) = true := beq_iff_eq.mpr c14
              have c14b1 : ((t112.size : Int) != 72) = false := bne_eq_false_iff_eq.mpr c14
              clear c14
              replace H := Option.bind_eq_some_iff.mp H
              obtain ⟨t113, A150, H⟩ := H
              replace H : (if t113.toList = ([] : List UInt8) then ((digest_Hex.f (⟨#[0, 175]⟩ : ByteArray)).bind fun t114 => (some (t114.toList == ([48, 48, 97, 102] : List UInt8)))) else (some false)) = some true := H
              have A15 := Aside0.mk A150
              clear A150
              by_cases c16 : t113.toList = ([] : List UInt8)
              · rw [if_pos c16] at H
                have c16b0 : (t113.toList == ([] : List UInt8)) = true := beq_iff_eq.mpr c16
                have c16b1 : (t113.toList != ([] : List UInt8)) = false := bne_eq_false_iff_eq.mpr c16
                clear c16
                replace H := Option.bind_eq_some_iff.mp H
                obtain ⟨t114, A170, H⟩ := H
                replace H : (some (t114.toList == ([48, 48, 97, 102] : List UInt8))) = some true := H
                have A17 := Aside0.mk A170
                clear A170
                have hret_ := Option.some.inj H
                clear H
                go_enter Try.func8, Try.ntmps8
                go_wp2_with (first | ((with_reducible refine gate_callee (f := 9) rfl ?_); refine goesL_ (some 4) rfl rfl Try.func9 (by kernel_rfl) rfl #[.string (⟨#[]⟩ : ByteArray), .string (⟨#[]⟩ : ByteArray)] rfl (by (try simp only [List.map_toArray, List.map_cons, List.map_nil]); first | done | rfl | (simp only [List.length_drop, List.length_take]; rfl)) ?_; (with_reducible refine (digest_Block.calls (⟨#[]⟩ : ByteArray) (⟨#[]⟩ : ByteArray) t104 false _ A1.out).mono ?_); rintro e w18 ⟨rfl, hb⟩; refine ⟨_, rfl, ?_⟩; have n0_ := Aside0.mk (below_step (by repeat (first | (with_reducible first | exact HB.out | apply below_alloc | apply pw_below_drewN | apply below_drew1) | exact HB.out)) hb); clear HB; have HB := n0_; clear n0_; (try clear hb); (try clear hb2); (try clear hk); (try clear hi)) | ((with_reducible refine gate_callee (f := 11) rfl ?_); refine goesL_ (some 7) rfl rfl Try.func11 (by kernel_rfl) rfl #[.string (⟨#[]⟩ : ByteArray)] rfl (by (try simp only [List.map_toArray, List.map_cons, List.map_nil]); first | done | rfl | (simp only [List.length_drop, List.length_take]; rfl)) ?_; (with_reducible refine (digest_Of.calls (⟨#[]⟩ : ByteArray) t106 _ A2.out).mono ?_); rintro e w19 ⟨rfl, hb⟩; refine ⟨_, rfl, ?_⟩; have n0_ := Aside0.mk (below_step (by repeat (first | (with_reducible first | exact HB.out | apply below_alloc | apply pw_below_drewN | apply below_drew1) | exact HB.out)) hb); clear HB; have HB := n0_; clear n0_; (try clear hb); (try clear hb2); (try clear hk); (try clear hi)) | ((with_reducible refine gate_callee (f := 13) rfl ?_); refine goesL_ (some 8) rfl rfl Try.func13 (by kernel_rfl) rfl #[.string t106] rfl (by (try simp only [List.map_toArray, List.map_cons, List.map_nil]); first | done | rfl | (simp only [List.length_drop, List.length_take]; rfl)) ?_; (with_reducible refine (digest_Hex.calls t106 t107 _ A3.out).mono ?_); rintro e w20 ⟨rfl, hb⟩; refine ⟨_, rfl, ?_⟩; have n0_ := Aside0.mk (below_step (by repeat (first | (with_reducible first | exact HB.out | apply below_alloc | apply pw_below_drewN | apply below_drew1) | exact HB.out)) hb); clear HB; have HB := n0_; clear n0_; (try clear hb); (try clear hb2); (try clear hk); (try clear hi)) | (go_at_call 11; (with_reducible refine (digest_Of.calls (⟨#[97, 98, 99]⟩ : ByteArray) t108 _ A5.out).mono ?_); rintro e w21 ⟨rfl, hb⟩; have n0_ := Aside0.mk (below_step (by repeat (first | (with_reducible first | exact HB.out | apply below_alloc | apply pw_below_drewN | apply below_drew1) | exact HB.out)) hb); clear HB; have HB := n0_; clear n0_; (try clear hb); (try clear hb2); (try clear hk); (try clear hi)) | (go_at_call 13; (with_reducible refine (digest_Hex.calls t108 t109 _ A6.out).mono ?_); rintro e w22 ⟨rfl, hb⟩; have n0_ := Aside0.mk (below_step (by repeat (first | (with_reducible first | exact HB.out | apply below_alloc | apply pw_below_drewN | apply below_drew1) | exact HB.out)) hb); clear HB; have HB := n0_; clear n0_; (try clear hb); (try clear hb2); (try clear hk); (try clear hi)) | (go_at_call 15; (with_reducible refine (digest_Pad.calls 0 t110 _ A9.out).mono ?_); rintro e w23 ⟨rfl, hb⟩; have n0_ := Aside0.mk (below_step (by repeat (first | (with_reducible first | exact HB.out | apply below_alloc | apply pw_below_drewN | apply below_drew1) | exact HB.out)) hb); clear HB; have HB := n0_; clear n0_; (try clear hb); (try clear hb2); (try clear hk); (try clear hi)) | (go_at_call 15; (with_reducible refine (digest_Pad.calls 55 t111 _ A11.out).mono ?_); rintro e w24 ⟨rfl, hb⟩; have n0_ := Aside0.mk (below_step (by repeat (first | (with_reducible first | exact HB.out | apply below_alloc | apply pw_below_drewN | apply below_drew1) | exact HB.out)) hb); clear HB; have HB := n0_; clear n0_; (try clear hb); (try clear hb2); (try clear hk); (try clear hi)) | (go_at_call 15; (with_reducible refine (digest_Pad.calls 56 t112 _ A13.out).mono ?_); rintro e w25 ⟨rfl, hb⟩; have n0_ := Aside0.mk (below_step (by repeat (first | (with_reducible first | exact HB.out | apply below_alloc | apply pw_below_drewN | apply below_drew1) | exact HB.out)) hb); clear HB; have HB := n0_; clear n0_; (try clear hb); (try clear hb2); (try clear hk); (try clear hi)) | (go_at_call 15; (with_reducible refine (digest_Pad.calls (-1) t113 _ A15.out).mono ?_); rintro e w26 ⟨rfl, hb⟩; have n0_ := Aside0.mk (below_step (by repeat (first | (with_reducible first | exact HB.out | apply below_alloc | apply pw_below_drewN | apply below_drew1) | exact HB.out)) hb); clear HB; have HB := n0_; clear n0_; (try clear hb); (try clear hb2); (try clear hk); (try clear hi)) | (go_at_call 13; (with_reducible refine (digest_Hex.calls (⟨#[0, 175]⟩ : ByteArray) t114 _ A17.out).mono ?_); rintro e w27 ⟨rfl, hb⟩; have n0_ := Aside0.mk (below_step (by repeat (first | (with_reducible first | exact HB.out | apply below_alloc | apply pw_below_drewN | apply below_drew1) | exact HB.out)) hb); clear HB; have HB := n0_; clear n0_; (try clear hb); (try clear hb2); (try clear hk); (try clear hi)))
                go_ret
                exact ⟨by first | rfl | (simp [errW_none, errW_some] <;> rfl) | (simp [*, errW_none, errW_some] <;> rfl), by repeat (first | (with_reducible first | exact HB.out | apply below_alloc | apply pw_below_drewN | apply below_drew1) | exact HB.out)⟩
              · rw [if_neg c16] at H
                have c16b0 : (t113.toList == ([] : List UInt8)) = false := beq_eq_false_iff_ne.mpr c16
                have c16b1 : (t113.toList != ([] : List UInt8)) = true := bne_iff_ne.mpr c16
                exact absurd H (by simp)
            · rw [if_neg c14] at H
              have c14b0 : ((t112.size : Int) == 72) = false := beq_eq_false_iff_ne.mpr c14
              have c14b1 : ((t112.size : Int) != 72) = true := bne_iff_ne.mpr c14
              exact absurd H (by simp)
          · rw [if_neg c12] at H
            have c12b0 : ((t111.size : Int) == 9) = false := beq_eq_false_iff_ne.mpr c12
            have c12b1 : ((t111.size : Int) != 9) = true := bne_iff_ne.mpr c12
            exact absurd H (by simp)
        · rw [if_neg c10] at H
          have c10b0 : ((t110.size : Int) == 64) = false := beq_eq_false_iff_ne.mpr c10
          have c10b1 : ((t110.size : Int) != 64) = true := bne_iff_ne.mpr c10
          exact absurd H (by simp)
    · rw [if_neg c7] at H
      have c7b0 : (t109.toList == ([98, 97, 55, 56, 49, 54, 98, 102, 56, 102, 48, 49, 99, 102, 101, 97, 52, 49, 52, 49, 52, 48, 100, 101, 53, 100, 97, 101, 50, 50, 50, 51, 98, 48, 48, 51, 54, 49, 97, 51, 57, 54, 49, 55, 55, 97, 57, 99, 98, 52, 49, 48, 102, 102, 54, 49, 102, 50, 48, 48, 49, 53, 97, 100] : List UInt8)) = false := beq_eq_false_iff_ne.mpr c7
      have c7b1 : (t109.toList != ([98, 97, 55, 56, 49, 54, 98, 102, 56, 102, 48, 49, 99, 102, 101, 97, 52, 49, 52, 49, 52, 48, 100, 101, 53, 100, 97, 101, 50, 50, 50, 51, 98, 48, 48, 51, 54, 49, 97, 51, 57, 54, 49, 55, 55, 97, 57, 99, 98, 52, 49, 48, 102, 102, 54, 49, 102, 50, 48, 48, 49, 53, 97, 100] : List UInt8)) = true := bne_iff_ne.mpr c7
      exact absurd H (by simp)
  · rw [if_neg c4] at H
    have c4b0 : (t107.toList == ([101, 51, 98, 48, 99, 52, 52, 50, 57, 56, 102, 99, 49, 99, 49, 52, 57, 97, 102, 98, 102, 52, 99, 56, 57, 57, 54, 102, 98, 57, 50, 52, 50, 55, 97, 101, 52, 49, 101, 52, 54, 52, 57, 98, 57, 51, 52, 99, 97, 52, 57, 53, 57, 57, 49, 98, 55, 56, 53, 50, 98, 56, 53, 53] : List UInt8)) = false := beq_eq_false_iff_ne.mpr c4
    have c4b1 : (t107.toList != ([101, 51, 98, 48, 99, 52, 52, 50, 57, 56, 102, 99, 49, 99, 49, 52, 57, 97, 102, 98, 102, 52, 99, 56, 57, 57, 54, 102, 98, 57, 50, 52, 50, 55, 97, 101, 52, 49, 101, 52, 54, 52, 57, 98, 57, 51, 52, 99, 97, 52, 57, 53, 57, 57, 49, 98, 55, 56, 53, 50, 98, 56, 53, 53] : List UInt8)) = true := bne_iff_ne.mpr c4
    exact absurd H (by simp)

end Go.Proofs.Ytkejacgedipoeaa.P
