/- Printed functions, merged. -/
import Derived.Test.YtnoafmnjnmlhmaaZDKM0
import Derived.Test.YtnoafmnjnmlhmaaZDKKSh
import Derived.Test.YtnoafmnjnmlhmaaZDKM1
import Derived.Test.YtnoafmnjnmlhmaaZDKKFlush
import Derived.Test.YtnoafmnjnmlhmaaZDKAl
namespace Go.Proofs.Ytnoafmnjnmlhmaa.P
open Go.RowKit Go.Proofs.YtnoafmnjnmlhmaaW.PrintWords Go.Proofs.YtnoafmnjnmlhmaaW.PrintLast Go.Proofs.YtnoafmnjnmlhmaaW.PrintMore
attribute [local go_sem] max2_int min2_int max_two min_two max_three min_three max_four min_four   -- for this text's walks alone
set_option linter.unusedVariables false
set_option linter.unusedSimpArgs false
def disk_Run.l0 : Nat → List (S49) → Int → Int → List ByteArray → List (S27) → List ByteArray → List (S27) → Option (List ByteArray × (List (S27)) × Int)
 | 0, _, _, _, _, _, _, _ => none
 | k + 1, x23, x24, x25, x435000, x435001, x438000, x438001 => if x25 < x24 then (if 0 ≤ x25 then (if x25 < (x23.length : Int) then (if (rd_T49 x23 x25).f0 = true then ((disk_Flush.f x438000 x438001).bind fun bt444 => (if bt444.2.2 = 0 then (disk_Run.l0 k x23 x24 (wrap64 (x25 + 1)) x435000 x435001 bt444.1 bt444.2.1) else (some (x435000, x435001, bt444.2.2)))) else ((disk_Put.f k x438000 x438001 ((rd_T49 x23 x25).f1) ((rd_T49 x23 x25).f2)).bind fun bt451 => (if bt451.2.2 = 0 then (disk_Run.l0 k x23 x24 (wrap64 (x25 + 1)) x435000 x435001 bt451.1 bt451.2.1) else (some (x435000, x435001, bt451.2.2))))) else (none)) else (none)) else (some (x438000, x438001, 0))
def disk_Run.f (k : Nat) (l0_0 : List ByteArray) (l0_1 : List (S27)) (l1 : List (S49)) (a2 : Int) : Option (List ByteArray × (List (S27)) × Int) := (disk_May.f k l0_0 l0_1).bind fun t436 => (if t436 = true then (if 0 ≤ (mn (mx a2 0) (l1.length : Int)) then (if (mn (mx a2 0) (l1.length : Int)) ≤ (l1.length : Int) then ((some (l1.take ((mn (mx a2 0) (l1.length : Int)) : Int).toNat : List (S49))).bind fun y438 => (disk_Run.l0 k y438 (y438.length : Int) 0 l0_0 l0_1 l0_0 l0_1)) else (none)) else (none)) else (some (l0_0, l0_1, 1)))
theorem disk_Run.mono_l : ∀ k, (∀ y0 y1 y2 y3 y4 y5 y6, LeO (disk_Run.l0 k y0 y1 y2 y3 y4 y5 y6) (disk_Run.l0 (k + 1) y0 y1 y2 y3 y4 y5 y6))
 | 0 => fun _ _ _ _ _ _ _ r h => by simp [disk_Run.l0] at h
 | k + 1 => by
  have ih0 := disk_Run.mono_l k
  ·intro y0 y1 y2 y3 y4 y5 y6
   unfold disk_Run.l0
   repeat' first
   | (with_reducible exact ih0 _ _ _ _ _ _ _)
   | (with_reducible exact disk_May.mono _ _ _)
   | (with_reducible exact disk_Put.mono _ _ _ _ _)
   | (with_reducible exact LeO.refl _)
   | (with_reducible exact LeO.none _)
   | (with_reducible refine LeO.ite ?_ ?_)
   | (with_reducible refine LeO.bind ?_ (fun _ => ?_))
   | exact ih0 _ _ _ _ _ _ _
   | exact disk_May.mono _ _ _
   | exact disk_Put.mono _ _ _ _ _
   | exact LeO.none _
   | refine LeO.ite ?_ ?_
   | refine LeO.bind ?_ (fun _ => ?_)
theorem disk_Run.mono : ∀ a0 a1 a2 a3 k, LeO (disk_Run.f k a0 a1 a2 a3) (disk_Run.f (k + 1) a0 a1 a2 a3) := by
 intro a0 a1 a2 a3 k
 have ih0 := disk_Run.mono_l k
 unfold disk_Run.f
 repeat' first
   | (with_reducible exact ih0 _ _ _ _ _ _ _)
   | (with_reducible exact disk_May.mono _ _ _)
   | (with_reducible exact disk_Put.mono _ _ _ _ _)
   | (with_reducible exact LeO.refl _)
   | (with_reducible exact LeO.none _)
   | (with_reducible refine LeO.ite ?_ ?_)
   | (with_reducible refine LeO.bind ?_ (fun _ => ?_))
   | exact ih0 _ _ _ _ _ _ _
   | exact disk_May.mono _ _ _
   | exact disk_Put.mono _ _ _ _ _
   | exact LeO.none _
   | refine LeO.ite ?_ ?_
   | refine LeO.bind ?_ (fun _ => ?_)
end Go.Proofs.Ytnoafmnjnmlhmaa.P
