/- Printed functions, merged. -/
import Derived.Test.YtjmomhicemjilaaDoorProg
import Derived.Below
import Derived.Deep.Draws
import Derived.Deep.AppendLies
import Derived.Maps.AppendAt
import Derived.OwnWalk
import Derived.Laws.BytesArg
import Derived.Laws.MakeOwn
import Derived.Laws.OwnMore
import Derived.Deep.OwnRows
import Derived.Tactics
import Derived.Lib.ConvBytes
import Derived.Laws.Slices
import Derived.WalkKit
import Derived.KernelRfl
import Derived.RowKit3
import Derived.Deep.LoopGhost
import Derived.Deep.QuietTactic
import Derived.BigQuiet
import Derived.WideLaws
import Derived.Deep.DeepCutAuto
import Derived.Deep.CutBlock
import Derived.Deep.RegionHeld3
import Derived.Laws.Rows
import Derived.Lib.AppendStr
import Derived.ArgAppend
import Derived.Laws.IdiomCopy
import Derived.OrdersHeld
import Derived.Laws.BitsLemmas
import Derived.RowKit
import Derived.Test.YtjmomhicemjilaaDoorZB64ApartWWords
import Derived.Test.YtjmomhicemjilaaDoorZB64ApartWLast
import Derived.Test.YtjmomhicemjilaaDoorZB64ApartWApart
import Derived.Test.YtjmomhicemjilaaDoorZB64ApartWShare
import Derived.Test.YtjmomhicemjilaaDoorZB64ApartWN
import Derived.Laws.StructEq
import Derived.Test.YtjmomhicemjilaaDoorZB64ApartWRepsOne
import Derived.Test.YtjmomhicemjilaaDoorZB64ApartWMore
namespace Go.Proofs.YtjmomhicemjilaaDoor.P
open Go.RowKit Go.Proofs.YtjmomhicemjilaaDoorW.PrintWords Go.Proofs.YtjmomhicemjilaaDoorW.PrintLast Go.Proofs.YtjmomhicemjilaaDoorW.PrintMore
attribute [local go_sem] max2_int min2_int max_two min_two max_three min_three max_four min_four   -- for this text's walks alone
set_option linter.unusedVariables false
set_option linter.unusedSimpArgs false
def errW : Option Int → Value
  | none => .nilIface
  | some c => .iface 0 (.int .i64 c)
theorem errW_none : errW none = .nilIface := rfl
theorem errW_some (c : Int) : errW (some c) = .iface 0 (.int .i64 c) := rfl
theorem info5 : (Tryd.prog.info? 5).map (fun i => (i.zero, i.size, i.bytes)) = some (some (.int .u8 0), 1, 1) := by kernel_rfl
def b64_part.f (a0 : Int) (a1 : Int) : Option (Int) := if 0 ≤ (wrap64 (18 - (wrap64 (6 * a1)))) then (if 0 ≤ (Go.bits .and .u32 (shr .u32 a0 (wrap64 (18 - (wrap64 (6 * a1))))) 63) then (if (Go.bits .and .u32 (shr .u32 a0 (wrap64 (18 - (wrap64 (6 * a1))))) 63) < 64 then (some (bt (⟨#[65, 66, 67, 68, 69, 70, 71, 72, 73, 74, 75, 76, 77, 78, 79, 80, 81, 82, 83, 84, 85, 86, 87, 88, 89, 90, 97, 98, 99, 100, 101, 102, 103, 104, 105, 106, 107, 108, 109, 110, 111, 112, 113, 114, 115, 116, 117, 118, 119, 120, 121, 122, 48, 49, 50, 51, 52, 53, 54, 55, 56, 57, 43, 47]⟩ : ByteArray) (Go.bits .and .u32 (shr .u32 a0 (wrap64 (18 - (wrap64 (6 * a1))))) 63))) else (none)) else (none)) else (none)
set_option maxHeartbeats 8000000 in
set_option maxRecDepth 100000 in
theorem b64_part.calls (a0 : Int) (a1 : Int) (r : Int) (w : World) (h : b64_part.f a0 a1 = some r) :
    Calls Tryd.prog 26 #[.int .u32 a0, .int .i64 a1] w fun e w' => e = .returned (.int .u8 r) ∧ Drawn0 w w' := by
  have H : (if 0 ≤ (wrap64 (18 - (wrap64 (6 * a1)))) then (if 0 ≤ (Go.bits .and .u32 (shr .u32 a0 (wrap64 (18 - (wrap64 (6 * a1))))) 63) then (if (Go.bits .and .u32 (shr .u32 a0 (wrap64 (18 - (wrap64 (6 * a1))))) 63) < 64 then (some (bt (⟨#[65, 66, 67, 68, 69, 70, 71, 72, 73, 74, 75, 76, 77, 78, 79, 80, 81, 82, 83, 84, 85, 86, 87, 88, 89, 90, 97, 98, 99, 100, 101, 102, 103, 104, 105, 106, 107, 108, 109, 110, 111, 112, 113, 114, 115, 116, 117, 118, 119, 120, 121, 122, 48, 49, 50, 51, 52, 53, 54, 55, 56, 57, 43, 47]⟩ : ByteArray) (Go.bits .and .u32 (shr .u32 a0 (wrap64 (18 - (wrap64 (6 * a1))))) 63))) else (none)) else (none)) else (none)) = some r := h
  clear h
  obtain ⟨ji3, hji3⟩ : ∃ j_ : Int, (wrap64 (18 - (wrap64 (6 * a1)))) = j_ := ⟨_, rfl⟩
  replace H : (if 0 ≤ (ji3) then (if 0 ≤ (Go.bits .and .u32 (shr .u32 a0 (ji3)) 63) then (if (Go.bits .and .u32 (shr .u32 a0 (ji3)) 63) < 64 then (some (bt (⟨#[65, 66, 67, 68, 69, 70, 71, 72, 73, 74, 75, 76, 77, 78, 79, 80, 81, 82, 83, 84, 85, 86, 87, 88, 89, 90, 97, 98, 99, 100, 101, 102, 103, 104, 105, 106, 107, 108, 109, 110, 111, 112, 113, 114, 115, 116, 117, 118, 119, 120, 121, 122, 48, 49, 50, 51, 52, 53, 54, 55, 56, 57, 43, 47]⟩ : ByteArray) (Go.bits .and .u32 (shr .u32 a0 (ji3)) 63))) else (none)) else (none)) else (none)) = some r := by first | (rw [hji3] at H; exact H) | (simp only [hji3] at H ⊢; exact H)
  have hji3w : (IntKind.i64.wrap (18 - (wrap64 (6 * a1)))) = ji3 := (i64_w _).trans hji3
  by_cases c4 : 0 ≤ (ji3)
  · rw [if_pos c4] at H
    have c4b0 := eq_true c4
    have c4b1 : decide (0 ≤ (ji3)) = true := decide_eq_true c4
    clear c4
    obtain ⟨ji5, hji5⟩ : ∃ j_ : Int, (shr .u32 a0 (ji3)) = j_ := ⟨_, rfl⟩
    replace H : (if 0 ≤ (Go.bits .and .u32 (ji5) 63) then (if (Go.bits .and .u32 (ji5) 63) < 64 then (some (bt (⟨#[65, 66, 67, 68, 69, 70, 71, 72, 73, 74, 75, 76, 77, 78, 79, 80, 81, 82, 83, 84, 85, 86, 87, 88, 89, 90, 97, 98, 99, 100, 101, 102, 103, 104, 105, 106, 107, 108, 109, 110, 111, 112, 113, 114, 115, 116, 117, 118, 119, 120, 121, 122, 48, 49, 50, 51, 52, 53, 54, 55, 56, 57, 43, 47]⟩ : ByteArray) (Go.bits .and .u32 (ji5) 63))) else (none)) else (none)) = some r := by first | (rw [hji5] at H; exact H) | (simp only [hji5] at H ⊢; exact H)
    have hji5_ : (a0 / 2 ^ min (ji3).toNat 32) = ji5 := hji5
    have hji5z : (ji3) ≤ 32 → (a0 / 2 ^ (ji3).toNat) = ji5 := shr_small hji5
    by_cases c6 : 0 ≤ (Go.bits .and .u32 (ji5) 63)
    · rw [if_pos c6] at H
      have c6b0 : decide (0 ≤ (Go.bits .and .u32 (ji5) 63)) = true := decide_eq_true c6
      clear c6
      by_cases c7 : (Go.bits .and .u32 (ji5) 63) < 64
      · rw [if_pos c7] at H
        have c7b0 : decide ((Go.bits .and .u32 (ji5) 63) < 64) = true := decide_eq_true c7
        clear c7
        obtain rfl := Option.some.inj H
        have p8 : 0 ≤ ((Go.bits .and .u32 (ji5) 63) : Int) := of_decide_eq_true (by first | (with_reducible assumption) | assumption)
        have q8 : (Go.bits .and .u32 (ji5) 63) < (64 : Int) := of_decide_eq_true (by first | (with_reducible assumption) | assumption)
        have hx8 := bt_at (⟨#[65, 66, 67, 68, 69, 70, 71, 72, 73, 74, 75, 76, 77, 78, 79, 80, 81, 82, 83, 84, 85, 86, 87, 88, 89, 90, 97, 98, 99, 100, 101, 102, 103, 104, 105, 106, 107, 108, 109, 110, 111, 112, 113, 114, 115, 116, 117, 118, 119, 120, 121, 122, 48, 49, 50, 51, 52, 53, 54, 55, 56, 57, 43, 47]⟩ : ByteArray) (Go.bits .and .u32 (ji5) 63)
        replace p8 := eq_true p8
        replace q8 := eq_true q8
        go_enter Tryd.func26, Tryd.ntmps26
        go_wp2
        go_ret
        exact ⟨by first | rfl | (simp; done) | (simp only [← hji3, ← hji5] <;> (first | rfl | simp)) | (simp [*]; done), by repeat (first | exact Drawn0.refl _ | apply Drawn0.step)⟩
      · rw [if_neg c7] at H
        exact absurd H (by simp)
    · rw [if_neg c6] at H
      exact absurd H (by simp)
  · rw [if_neg c4] at H
    exact absurd H (by simp)
def b64_Size.f (a0 : Int) : Option (Int) := if a0 < 0 then (some (-1)) else (if a0 > 1099511627776 then (some (-1)) else (some (wrap64 ((wrap64 (Int.tdiv (wrap64 ((wrap64 (a0 + 3)) - 1)) 3)) * 4))))
set_option maxHeartbeats 8000000 in
set_option maxRecDepth 100000 in
theorem b64_Size.calls (a0 : Int) (r : Int) (w : World) (h : b64_Size.f a0 = some r) :
    Calls Tryd.prog 12 #[.int .i64 a0] w fun e w' => e = .returned (.int .i64 r) ∧ Drawn0 w w' := by
  have H : (if a0 < 0 then (some (-1)) else (if a0 > 1099511627776 then (some (-1)) else (some (wrap64 ((wrap64 (Int.tdiv (wrap64 ((wrap64 (a0 + 3)) - 1)) 3)) * 4))))) = some r := h
  clear h
  by_cases c2 : a0 < 0
  · rw [if_pos c2] at H
    have c2b0 : decide (a0 < 0) = true := decide_eq_true c2
    clear c2
    obtain rfl := Option.some.inj H
    go_enter Tryd.func12, Tryd.ntmps12
    go_wp2
    go_ret
    exact ⟨by first | rfl | (simp; done) | (simp [*]; done), by repeat (first | exact Drawn0.refl _ | apply Drawn0.step)⟩
  · rw [if_neg c2] at H
    have c2b0 : decide (a0 < 0) = false := decide_eq_false c2
    clear c2
    by_cases c3 : a0 > 1099511627776
    · rw [if_pos c3] at H
      have c3b0 : decide (1099511627776 < a0) = true := decide_eq_true c3
      clear c3
      obtain rfl := Option.some.inj H
      go_enter Tryd.func12, Tryd.ntmps12
      go_wp2
      go_ret
      exact ⟨by first | rfl | (simp; done) | (simp [*]; done), by repeat (first | exact Drawn0.refl _ | apply Drawn0.step)⟩
    · rw [if_neg c3] at H
      have c3b0 : decide (1099511627776 < a0) = false := decide_eq_false c3
      clear c3
      obtain rfl := Option.some.inj H
      go_enter Tryd.func12, Tryd.ntmps12
      go_wp2
      go_ret
      exact ⟨by first | rfl | (simp; done) | (simp [*]; done), by repeat (first | exact Drawn0.refl _ | apply Drawn0.step)⟩
end Go.Proofs.YtjmomhicemjilaaDoor.P
