/- Printed functions, merged. -/
import Derived.Test.YthoddglnfdmdeaaZJAM0
import Derived.Test.YthoddglnfdmdeaaZJAH3
import Derived.Test.YthoddglnfdmdeaaZJAM3
import Derived.Test.YthoddglnfdmdeaaZJAH5
import Derived.Test.YthoddglnfdmdeaaZJAAl
namespace Go.Proofs.Ythoddglnfdmdeaa.P
open Go.RowKit Go.Proofs.YthoddglnfdmdeaaW.PrintWords Go.Proofs.YthoddglnfdmdeaaW.PrintLast Go.Proofs.YthoddglnfdmdeaaW.PrintMore
attribute [local go_sem] max2_int min2_int max_two min_two max_three min_three max_four min_four   -- for this text's walks alone
set_option linter.unusedVariables false
set_option linter.unusedSimpArgs false
def disk_Run.l0 : Nat → List (S85) → Int → Int → List ByteArray → List (S29) → List ByteArray → List (S29) → Option (List ByteArray × (List (S29)) × Int)
 | 0, _, _, _, _, _, _, _ => none
 | k + 1, x23, x24, x25, x467000, x467001, x470000, x470001 => if x25 < x24 then (if 0 ≤ x25 then (if x25 < (x23.length : Int) then (if (rd_T85 x23 x25).f0 = true then ((disk_Flush.f x470000 x470001).bind fun bt476 => (if bt476.2.2 = 0 then (disk_Run.l0 k x23 x24 (wrap64 (x25 + 1)) x467000 x467001 bt476.1 bt476.2.1) else (some (x467000, x467001, bt476.2.2)))) else ((disk_Put.f k x470000 x470001 ((rd_T85 x23 x25).f1) ((rd_T85 x23 x25).f2)).bind fun bt483 => (if bt483.2.2 = 0 then (disk_Run.l0 k x23 x24 (wrap64 (x25 + 1)) x467000 x467001 bt483.1 bt483.2.1) else (some (x467000, x467001, bt483.2.2))))) else (none)) else (none)) else (some (x470000, x470001, 0))
def disk_Run.f (k : Nat) (l0_0 : List ByteArray) (l0_1 : List (S29)) (l1 : List (S85)) (a2 : Int) : Option (List ByteArray × (List (S29)) × Int) := (disk_May.f k l0_0 l0_1).bind fun t468 => (if t468 = true then (if 0 ≤ (mn (mx a2 0) (l1.length : Int)) then (if (mn (mx a2 0) (l1.length : Int)) ≤ (l1.length : Int) then ((some (l1.take ((mn (mx a2 0) (l1.length : Int)) : Int).toNat : List (S85))).bind fun y470 => (disk_Run.l0 k y470 (y470.length : Int) 0 l0_0 l0_1 l0_0 l0_1)) else (none)) else (none)) else (some (l0_0, l0_1, 1)))
theorem disk_Run.mono_l : ∀ k, (∀ y0 y1 y2 y3 y4 y5 y6, LeO (disk_Run.l0 k y0 y1 y2 y3 y4 y5 y6) (disk_Run.l0 (k + 1) y0 y1 y2 y3 y4 y5 y6))
 | 0 => fun _ _ _ _ _ _ _ r h => by simp [disk_Run.l0] at h
 | k + 1 => by
  have ih0 := disk_Run.mono_l k
  ·intro y0 y1 y2 y3 y4 y5 y6
   unfold disk_Run.l0
   repeat' first
   | (with_reducible exact ih0 _ _ _ _ _ _ _)
   | (with_reducible exact disk_May.mono _ _ _)
   | (with_reducible exact disk_Put.mono _ _ _ _ _)
   | (with_reducible exact LeO.refl _)
   | (with_reducible exact LeO.none _)
   | (with_reducible refine LeO.ite ?_ ?_)
   | (with_reducible refine LeO.bind ?_ (fun _ => ?_))
   | exact ih0 _ _ _ _ _ _ _
   | exact disk_May.mono _ _ _
   | exact disk_Put.mono _ _ _ _ _
   | exact LeO.none _
   | refine LeO.ite ?_ ?_
   | refine LeO.bind ?_ (fun _ => ?_)
theorem disk_Run.mono : ∀ a0 a1 a2 a3 k, LeO (disk_Run.f k a0 a1 a2 a3) (disk_Run.f (k + 1) a0 a1 a2 a3) := by
 intro a0 a1 a2 a3 k
 have ih0 := disk_Run.mono_l k
 unfold disk_Run.f
 repeat' first
   | (with_reducible exact ih0 _ _ _ _ _ _ _)
   | (with_reducible exact disk_May.mono _ _ _)
   | (with_reducible exact disk_Put.mono _ _ _ _ _)
   | (with_reducible exact LeO.refl _)
   | (with_reducible exact LeO.none _)
   | (with_reducible refine LeO.ite ?_ ?_)
   | (with_reducible refine LeO.bind ?_ (fun _ => ?_))
   | exact ih0 _ _ _ _ _ _ _
   | exact disk_May.mono _ _ _
   | exact disk_Put.mono _ _ _ _ _
   | exact LeO.none _
   | refine LeO.ite ?_ ?_
   | refine LeO.bind ?_ (fun _ => ?_)
end Go.Proofs.Ythoddglnfdmdeaa.P
