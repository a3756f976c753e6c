/- Printed functions, merged. -/
import Derived.Test.YthoddglnfdmdeaaZJCM0
import Derived.Test.YthoddglnfdmdeaaZJCH3
import Derived.Test.YthoddglnfdmdeaaZJCM7
import Derived.Test.YthoddglnfdmdeaaZJCM6
import Derived.Test.YthoddglnfdmdeaaZJCM8
import Derived.Test.YthoddglnfdmdeaaZJCM1
import Derived.Test.YthoddglnfdmdeaaZJCM5
import Derived.Test.YthoddglnfdmdeaaZJCH7
import Derived.Test.YthoddglnfdmdeaaZJCH5
import Derived.Test.YthoddglnfdmdeaaZJCAl
namespace Go.Proofs.Ythoddglnfdmdeaa.P
open Go.RowKit Go.Proofs.YthoddglnfdmdeaaW.PrintWords Go.Proofs.YthoddglnfdmdeaaW.PrintLast Go.Proofs.YthoddglnfdmdeaaW.PrintMore
attribute [local go_sem] max2_int min2_int max_two min_two max_three min_three max_four min_four   -- for this text's walks alone
set_option linter.unusedVariables false
set_option linter.unusedSimpArgs false
mutual
def armadalaw04_JournalCrash.j0 : Nat → Bool → List ByteArray → List (S29) → Int → Int → ByteArray → Int → List Bool → Option (Bool)
 | 0, _, _, _, _, _, _, _, _ => none
 | k + 1, x33, x613000, x613001, x613002, x613003, x613004, x613005, x613006 => if x33 = true then ((armadalaw04_live.f k).bind fun t614 => (some t614)) else ((journal_Open.f k x613000 x613001 x613002 x613003).bind fun bt616 => (if bt616.2.2.2 = 0 then ((journal_Clean.f k x613000 x613001 x613002 x613003 bt616.1 bt616.2.1 bt616.2.2.1).bind fun t623 => (armadalaw04_JournalCrash.j1 k (!t623) x613000 x613001 x613002 x613003 x613004 x613005 x613006 x613002 x613003 bt616.1 bt616.2.1 bt616.2.2.1)) else (armadalaw04_JournalCrash.j1 k true x613000 x613001 x613002 x613003 x613004 x613005 x613006 x613002 x613003 bt616.1 bt616.2.1 bt616.2.2.1)))
def armadalaw04_JournalCrash.j1 : Nat → Bool → List ByteArray → List (S29) → Int → Int → ByteArray → Int → List Bool → Int → Int → Int → List ByteArray → Int → Option (Bool)
 | 0, _, _, _, _, _, _, _, _, _, _, _, _, _ => none
 | k + 1, x53, x613000, x613001, x613002, x613003, x613004, x613005, x613006, x616000, x616001, x623000, x623001, x623002 => if x53 = true then ((armadalaw04_live.f k).bind fun t624 => (some t624)) else ((journal_Add.f k x616000 x616001 x623000 x623001 x623002 x613004).bind fun bt625 => (if bt625.2 = 0 then ((disk_Run.f k x613000 x613001 bt625.1 x613005).bind fun bt630 => ((disk_Crash.f bt630.1 bt630.2.1 x613006).bind fun bt638 => (if bt630.2.2 = 0 then (armadalaw04_JournalCrash.j2 k bt625.1 (bt638.2.2 != 0) x613000 x613001 x613002 x613003 x613004 x613005 x613006 x616000 x616001 x623000 x623001 x623002 bt638.1 bt638.2.1) else (armadalaw04_JournalCrash.j2 k bt625.1 true x613000 x613001 x613002 x613003 x613004 x613005 x613006 x616000 x616001 x623000 x623001 x623002 bt638.1 bt638.2.1)))) else (if (bt625.1.length : Int) = 0 then ((armadalaw04_live.f k).bind fun t629 => (some t629)) else (some false))))
def armadalaw04_JournalCrash.j2 : Nat → List (S85) → Bool → List ByteArray → List (S29) → Int → Int → ByteArray → Int → List Bool → Int → Int → Int → List ByteArray → Int → List ByteArray → List (S29) → Option (Bool)
 | 0, _, _, _, _, _, _, _, _, _, _, _, _, _, _, _, _ => none
 | k + 1, x6, x92, x613000, x613001, x613002, x613003, x613004, x613005, x613006, x616000, x616001, x623000, x623001, x623002, x646000, x646001 => if x92 = true then (some false) else ((journal_Open.f k x646000 x646001 x616000 x616001).bind fun bt646 => (if bt646.2.2.2 = 0 then (if bt646.1 = x623000 then ((journal_Clean.f k x646000 x646001 x616000 x616001 bt646.1 bt646.2.1 bt646.2.2.1).bind fun t653 => (armadalaw04_JournalCrash.j3 k x6 (!t653) x613000 x613001 x613002 x613003 x613004 x613005 x613006 x623000 x623001 x623002 bt646.1 bt646.2.1 bt646.2.2.1)) else (armadalaw04_JournalCrash.j3 k x6 true x613000 x613001 x613002 x613003 x613004 x613005 x613006 x623000 x623001 x623002 bt646.1 bt646.2.1 bt646.2.2.1)) else (armadalaw04_JournalCrash.j3 k x6 true x613000 x613001 x613002 x613003 x613004 x613005 x613006 x623000 x623001 x623002 bt646.1 bt646.2.1 bt646.2.2.1)))
def armadalaw04_JournalCrash.j3 : Nat → List (S85) → Bool → List ByteArray → List (S29) → Int → Int → ByteArray → Int → List Bool → Int → List ByteArray → Int → Int → List ByteArray → Int → Option (Bool)
 | 0, _, _, _, _, _, _, _, _, _, _, _, _, _, _, _ => none
 | k + 1, x6, x114, x613000, x613001, x613002, x613003, x613004, x613005, x613006, x623000, x623001, x623002, x653000, x653001, x653002 => if x114 = true then (some false) else ((armadaref03_Same.f k x653001 x623001).bind fun t654 => (if t654 = true then (armadalaw04_JournalCrash.j4 k x6 (x653002 == x623002) x613000 x613001 x613002 x613003 x613004 x613005 x613006 x623000 x623001 x623002 x653000 x653001 x653002) else (armadalaw04_JournalCrash.j4 k x6 false x613000 x613001 x613002 x613003 x613004 x613005 x613006 x623000 x623001 x623002 x653000 x653001 x653002)))
def armadalaw04_JournalCrash.j4 : Nat → List (S85) → Bool → List ByteArray → List (S29) → Int → Int → ByteArray → Int → List Bool → Int → List ByteArray → Int → Int → List ByteArray → Int → Option (Bool)
 | 0, _, _, _, _, _, _, _, _, _, _, _, _, _, _, _ => none
 | k + 1, x6, x14, x613000, x613001, x613002, x613003, x613004, x613005, x613006, x623000, x623001, x623002, x653000, x653001, x653002 => if ([] : List ByteArray).length + x623001.length < 8796093022208 then ((some (([] : List ByteArray) ++ x623001 : List ByteArray)).bind fun y655 => (if y655.length < 8796093022208 then ((armadaref03_Same.f k x653001 (y655 ++ [x613004])).bind fun t661 => (if x613005 ≥ (x6.length : Int) then (if t661 = true then ((armadalaw04_live.f k).bind fun t662 => (some t662)) else (some false)) else (if x613005 ≤ (wrap64 ((x6.length : Int) - 2)) then (if x14 = true then ((armadalaw04_live.f k).bind fun t663 => (some t663)) else (some false)) else (if x14 = true then ((armadalaw04_live.f k).bind fun t664 => (some t664)) else (if t661 = true then ((armadalaw04_live.f k).bind fun t665 => (some t665)) else (some false)))))) else (none))) else (none)
end
def armadalaw04_JournalCrash.f (k : Nat) (l0_0 : List ByteArray) (l0_1 : List (S29)) (a0_2 : Int) (a0_3 : Int) (a0_4 : ByteArray) (a0_5 : Int) (l0_6 : List Bool) : Option (Bool) := (armadaref01_Small.f k l0_0 l0_1).bind fun t613 => (if t613 = true then (if (l0_1.length : Int) > 0 then (armadalaw04_JournalCrash.j0 k true l0_0 l0_1 a0_2 a0_3 a0_4 a0_5 l0_6) else (armadalaw04_JournalCrash.j0 k (decide ((l0_6.length : Int) > 1000)) l0_0 l0_1 a0_2 a0_3 a0_4 a0_5 l0_6)) else (armadalaw04_JournalCrash.j0 k true l0_0 l0_1 a0_2 a0_3 a0_4 a0_5 l0_6))
theorem armadalaw04_JournalCrash.mono_l : ∀ k, (∀ y0 y1 y2 y3 y4 y5 y6 y7, LeO (armadalaw04_JournalCrash.j0 k y0 y1 y2 y3 y4 y5 y6 y7) (armadalaw04_JournalCrash.j0 (k + 1) y0 y1 y2 y3 y4 y5 y6 y7)) ∧ (∀ y0 y1 y2 y3 y4 y5 y6 y7 y8 y9 y10 y11 y12, LeO (armadalaw04_JournalCrash.j1 k y0 y1 y2 y3 y4 y5 y6 y7 y8 y9 y10 y11 y12) (armadalaw04_JournalCrash.j1 (k + 1) y0 y1 y2 y3 y4 y5 y6 y7 y8 y9 y10 y11 y12)) ∧ (∀ y0 y1 y2 y3 y4 y5 y6 y7 y8 y9 y10 y11 y12 y13 y14 y15, LeO (armadalaw04_JournalCrash.j2 k y0 y1 y2 y3 y4 y5 y6 y7 y8 y9 y10 y11 y12 y13 y14 y15) (armadalaw04_JournalCrash.j2 (k + 1) y0 y1 y2 y3 y4 y5 y6 y7 y8 y9 y10 y11 y12 y13 y14 y15)) ∧ (∀ y0 y1 y2 y3 y4 y5 y6 y7 y8 y9 y10 y11 y12 y13 y14, LeO (armadalaw04_JournalCrash.j3 k y0 y1 y2 y3 y4 y5 y6 y7 y8 y9 y10 y11 y12 y13 y14) (armadalaw04_JournalCrash.j3 (k + 1) y0 y1 y2 y3 y4 y5 y6 y7 y8 y9 y10 y11 y12 y13 y14)) ∧ (∀ y0 y1 y2 y3 y4 y5 y6 y7 y8 y9 y10 y11 y12 y13 y14, LeO (armadalaw04_JournalCrash.j4 k y0 y1 y2 y3 y4 y5 y6 y7 y8 y9 y10 y11 y12 y13 y14) (armadalaw04_JournalCrash.j4 (k + 1) y0 y1 y2 y3 y4 y5 y6 y7 y8 y9 y10 y11 y12 y13 y14))
 | 0 => ⟨fun _ _ _ _ _ _ _ _ r h => by simp [armadalaw04_JournalCrash.j0] at h, fun _ _ _ _ _ _ _ _ _ _ _ _ _ r h => by simp [armadalaw04_JournalCrash.j1] at h, fun _ _ _ _ _ _ _ _ _ _ _ _ _ _ _ _ r h => by simp [armadalaw04_JournalCrash.j2] at h, fun _ _ _ _ _ _ _ _ _ _ _ _ _ _ _ r h => by simp [armadalaw04_JournalCrash.j3] at h, fun _ _ _ _ _ _ _ _ _ _ _ _ _ _ _ r h => by simp [armadalaw04_JournalCrash.j4] at h⟩
 | k + 1 => by
  obtain ⟨ih0, ih1, ih2, ih3, ih4⟩ := armadalaw04_JournalCrash.mono_l k
  refine ⟨?_, ?_, ?_, ?_, ?_⟩
  ·intro y0 y1 y2 y3 y4 y5 y6 y7
   unfold armadalaw04_JournalCrash.j0
   repeat' first
   | (with_reducible exact ih0 _ _ _ _ _ _ _ _)
   | (with_reducible exact ih1 _ _ _ _ _ _ _ _ _ _ _ _ _)
   | (with_reducible exact ih2 _ _ _ _ _ _ _ _ _ _ _ _ _ _ _ _)
   | (with_reducible exact ih3 _ _ _ _ _ _ _ _ _ _ _ _ _ _ _)
   | (with_reducible exact ih4 _ _ _ _ _ _ _ _ _ _ _ _ _ _ _)
   | (with_reducible exact armadalaw04_live.mono _)
   | (with_reducible exact armadaref01_Small.mono _ _ _)
   | (with_reducible exact armadaref03_Same.mono _ _ _)
   | (with_reducible exact disk_Run.mono _ _ _ _ _)
   | (with_reducible exact journal_Add.mono _ _ _ _ _ _ _)
   | (with_reducible exact journal_Clean.mono _ _ _ _ _ _ _ _)
   | (with_reducible exact journal_Open.mono _ _ _ _ _)
   | (with_reducible exact LeO.refl _)
   | (with_reducible exact LeO.none _)
   | (with_reducible refine LeO.ite ?_ ?_)
   | (with_reducible refine LeO.bind ?_ (fun _ => ?_))
   | exact ih0 _ _ _ _ _ _ _ _
   | exact ih1 _ _ _ _ _ _ _ _ _ _ _ _ _
   | exact ih2 _ _ _ _ _ _ _ _ _ _ _ _ _ _ _ _
   | exact ih3 _ _ _ _ _ _ _ _ _ _ _ _ _ _ _
   | exact ih4 _ _ _ _ _ _ _ _ _ _ _ _ _ _ _
   | exact armadalaw04_live.mono _
   | exact armadaref01_Small.mono _ _ _
   | exact armadaref03_Same.mono _ _ _
   | exact disk_Run.mono _ _ _ _ _
   | exact journal_Add.mono _ _ _ _ _ _ _
   | exact journal_Clean.mono _ _ _ _ _ _ _ _
   | exact journal_Open.mono _ _ _ _ _
   | exact LeO.none _
   | refine LeO.ite ?_ ?_
   | refine LeO.bind ?_ (fun _ => ?_)
  ·intro y0 y1 y2 y3 y4 y5 y6 y7 y8 y9 y10 y11 y12
   unfold armadalaw04_JournalCrash.j1
   repeat' first
   | (with_reducible exact ih0 _ _ _ _ _ _ _ _)
   | (with_reducible exact ih1 _ _ _ _ _ _ _ _ _ _ _ _ _)
   | (with_reducible exact ih2 _ _ _ _ _ _ _ _ _ _ _ _ _ _ _ _)
   | (with_reducible exact ih3 _ _ _ _ _ _ _ _ _ _ _ _ _ _ _)
   | (with_reducible exact ih4 _ _ _ _ _ _ _ _ _ _ _ _ _ _ _)
   | (with_reducible exact armadalaw04_live.mono _)
   | (with_reducible exact armadaref01_Small.mono _ _ _)
   | (with_reducible exact armadaref03_Same.mono _ _ _)
   | (with_reducible exact disk_Run.mono _ _ _ _ _)
   | (with_reducible exact journal_Add.mono _ _ _ _ _ _ _)
   | (with_reducible exact journal_Clean.mono _ _ _ _ _ _ _ _)
   | (with_reducible exact journal_Open.mono _ _ _ _ _)
   | (with_reducible exact LeO.refl _)
   | (with_reducible exact LeO.none _)
   | (with_reducible refine LeO.ite ?_ ?_)
   | (with_reducible refine LeO.bind ?_ (fun _ => ?_))
   | exact ih0 _ _ _ _ _ _ _ _
   | exact ih1 _ _ _ _ _ _ _ _ _ _ _ _ _
   | exact ih2 _ _ _ _ _ _ _ _ _ _ _ _ _ _ _ _
   | exact ih3 _ _ _ _ _ _ _ _ _ _ _ _ _ _ _
   | exact ih4 _ _ _ _ _ _ _ _ _ _ _ _ _ _ _
   | exact armadalaw04_live.mono _
   | exact armadaref01_Small.mono _ _ _
   | exact armadaref03_Same.mono _ _ _
   | exact disk_Run.mono _ _ _ _ _
   | exact journal_Add.mono _ _ _ _ _ _ _
   | exact journal_Clean.mono _ _ _ _ _ _ _ _
   | exact journal_Open.mono _ _ _ _ _
   | exact LeO.none _
   | refine LeO.ite ?_ ?_
   | refine LeO.bind ?_ (fun _ => ?_)
  ·intro y0 y1 y2 y3 y4 y5 y6 y7 y8 y9 y10 y11 y12 y13 y14 y15
   unfold armadalaw04_JournalCrash.j2
   repeat' first
   | (with_reducible exact ih0 _ _ _ _ _ _ _ _)
   | (with_reducible exact ih1 _ _ _ _ _ _ _ _ _ _ _ _ _)
   | (with_reducible exact ih2 _ _ _ _ _ _ _ _ _ _ _ _ _ _ _ _)
   | (with_reducible exact ih3 _ _ _ _ _ _ _ _ _ _ _ _ _ _ _)
   | (with_reducible exact ih4 _ _ _ _ _ _ _ _ _ _ _ _ _ _ _)
   | (with_reducible exact armadalaw04_live.mono _)
   | (with_reducible exact armadaref01_Small.mono _ _ _)
   | (with_reducible exact armadaref03_Same.mono _ _ _)
   | (with_reducible exact disk_Run.mono _ _ _ _ _)
   | (with_reducible exact journal_Add.mono _ _ _ _ _ _ _)
   | (with_reducible exact journal_Clean.mono _ _ _ _ _ _ _ _)
   | (with_reducible exact journal_Open.mono _ _ _ _ _)
   | (with_reducible exact LeO.refl _)
   | (with_reducible exact LeO.none _)
   | (with_reducible refine LeO.ite ?_ ?_)
   | (with_reducible refine LeO.bind ?_ (fun _ => ?_))
   | exact ih0 _ _ _ _ _ _ _ _
   | exact ih1 _ _ _ _ _ _ _ _ _ _ _ _ _
   | exact ih2 _ _ _ _ _ _ _ _ _ _ _ _ _ _ _ _
   | exact ih3 _ _ _ _ _ _ _ _ _ _ _ _ _ _ _
   | exact ih4 _ _ _ _ _ _ _ _ _ _ _ _ _ _ _
   | exact armadalaw04_live.mono _
   | exact armadaref01_Small.mono _ _ _
   | exact armadaref03_Same.mono _ _ _
   | exact disk_Run.mono _ _ _ _ _
   | exact journal_Add.mono _ _ _ _ _ _ _
   | exact journal_Clean.mono _ _ _ _ _ _ _ _
   | exact journal_Open.mono _ _ _ _ _
   | exact LeO.none _
   | refine LeO.ite ?_ ?_
   | refine LeO.bind ?_ (fun _ => ?_)
  ·intro y0 y1 y2 y3 y4 y5 y6 y7 y8 y9 y10 y11 y12 y13 y14
   unfold armadalaw04_JournalCrash.j3
   repeat' first
   | (with_reducible exact ih0 _ _ _ _ _ _ _ _)
   | (with_reducible exact ih1 _ _ _ _ _ _ _ _ _ _ _ _ _)
   | (with_reducible exact ih2 _ _ _ _ _ _ _ _ _ _ _ _ _ _ _ _)
   | (with_reducible exact ih3 _ _ _ _ _ _ _ _ _ _ _ _ _ _ _)
   | (with_reducible exact ih4 _ _ _ _ _ _ _ _ _ _ _ _ _ _ _)
   | (with_reducible exact armadalaw04_live.mono _)
   | (with_reducible exact armadaref01_Small.mono _ _ _)
   | (with_reducible exact armadaref03_Same.mono _ _ _)
   | (with_reducible exact disk_Run.mono _ _ _ _ _)
   | (with_reducible exact journal_Add.mono _ _ _ _ _ _ _)
   | (with_reducible exact journal_Clean.mono _ _ _ _ _ _ _ _)
   | (with_reducible exact journal_Open.mono _ _ _ _ _)
   | (with_reducible exact LeO.refl _)
   | (with_reducible exact LeO.none _)
   | (with_reducible refine LeO.ite ?_ ?_)
   | (with_reducible refine LeO.bind ?_ (fun _ => ?_))
   | exact ih0 _ _ _ _ _ _ _ _
   | exact ih1 _ _ _ _ _ _ _ _ _ _ _ _ _
   | exact ih2 _ _ _ _ _ _ _ _ _ _ _ _ _ _ _ _
   | exact ih3 _ _ _ _ _ _ _ _ _ _ _ _ _ _ _
   | exact ih4 _ _ _ _ _ _ _ _ _ _ _ _ _ _ _
   | exact armadalaw04_live.mono _
   | exact armadaref01_Small.mono _ _ _
   | exact armadaref03_Same.mono _ _ _
   | exact disk_Run.mono _ _ _ _ _
   | exact journal_Add.mono _ _ _ _ _ _ _
   | exact journal_Clean.mono _ _ _ _ _ _ _ _
   | exact journal_Open.mono _ _ _ _ _
   | exact LeO.none _
   | refine LeO.ite ?_ ?_
   | refine LeO.bind ?_ (fun _ => ?_)
  ·intro y0 y1 y2 y3 y4 y5 y6 y7 y8 y9 y10 y11 y12 y13 y14
   unfold armadalaw04_JournalCrash.j4
   repeat' first
   | (with_reducible exact ih0 _ _ _ _ _ _ _ _)
   | (with_reducible exact ih1 _ _ _ _ _ _ _ _ _ _ _ _ _)
   | (with_reducible exact ih2 _ _ _ _ _ _ _ _ _ _ _ _ _ _ _ _)
   | (with_reducible exact ih3 _ _ _ _ _ _ _ _ _ _ _ _ _ _ _)
   | (with_reducible exact ih4 _ _ _ _ _ _ _ _ _ _ _ _ _ _ _)
   | (with_reducible exact armadalaw04_live.mono _)
   | (with_reducible exact armadaref01_Small.mono _ _ _)
   | (with_reducible exact armadaref03_Same.mono _ _ _)
   | (with_reducible exact disk_Run.mono _ _ _ _ _)
   | (with_reducible exact journal_Add.mono _ _ _ _ _ _ _)
   | (with_reducible exact journal_Clean.mono _ _ _ _ _ _ _ _)
   | (with_reducible exact journal_Open.mono _ _ _ _ _)
   | (with_reducible exact LeO.refl _)
   | (with_reducible exact LeO.none _)
   | (with_reducible refine LeO.ite ?_ ?_)
   | (with_reducible refine LeO.bind ?_ (fun _ => ?_))
   | exact ih0 _ _ _ _ _ _ _ _
   | exact ih1 _ _ _ _ _ _ _ _ _ _ _ _ _
   | exact ih2 _ _ _ _ _ _ _ _ _ _ _ _ _ _ _ _
   | exact ih3 _ _ _ _ _ _ _ _ _ _ _ _ _ _ _
   | exact ih4 _ _ _ _ _ _ _ _ _ _ _ _ _ _ _
   | exact armadalaw04_live.mono _
   | exact armadaref01_Small.mono _ _ _
   | exact armadaref03_Same.mono _ _ _
   | exact disk_Run.mono _ _ _ _ _
   | exact journal_Add.mono _ _ _ _ _ _ _
   | exact journal_Clean.mono _ _ _ _ _ _ _ _
   | exact journal_Open.mono _ _ _ _ _
   | exact LeO.none _
   | refine LeO.ite ?_ ?_
   | refine LeO.bind ?_ (fun _ => ?_)
theorem armadalaw04_JournalCrash.mono : ∀ a0 a1 a2 a3 a4 a5 a6 k, LeO (armadalaw04_JournalCrash.f k a0 a1 a2 a3 a4 a5 a6) (armadalaw04_JournalCrash.f (k + 1) a0 a1 a2 a3 a4 a5 a6) := by
 intro a0 a1 a2 a3 a4 a5 a6 k
 obtain ⟨ih0, ih1, ih2, ih3, ih4⟩ := armadalaw04_JournalCrash.mono_l k
 unfold armadalaw04_JournalCrash.f
 repeat' first
   | (with_reducible exact ih0 _ _ _ _ _ _ _ _)
   | (with_reducible exact ih1 _ _ _ _ _ _ _ _ _ _ _ _ _)
   | (with_reducible exact ih2 _ _ _ _ _ _ _ _ _ _ _ _ _ _ _ _)
   | (with_reducible exact ih3 _ _ _ _ _ _ _ _ _ _ _ _ _ _ _)
   | (with_reducible exact ih4 _ _ _ _ _ _ _ _ _ _ _ _ _ _ _)
   | (with_reducible exact armadalaw04_live.mono _)
   | (with_reducible exact armadaref01_Small.mono _ _ _)
   | (with_reducible exact armadaref03_Same.mono _ _ _)
   | (with_reducible exact disk_Run.mono _ _ _ _ _)
   | (with_reducible exact journal_Add.mono _ _ _ _ _ _ _)
   | (with_reducible exact journal_Clean.mono _ _ _ _ _ _ _ _)
   | (with_reducible exact journal_Open.mono _ _ _ _ _)
   | (with_reducible exact LeO.refl _)
   | (with_reducible exact LeO.none _)
   | (with_reducible refine LeO.ite ?_ ?_)
   | (with_reducible refine LeO.bind ?_ (fun _ => ?_))
   | exact ih0 _ _ _ _ _ _ _ _
   | exact ih1 _ _ _ _ _ _ _ _ _ _ _ _ _
   | exact ih2 _ _ _ _ _ _ _ _ _ _ _ _ _ _ _ _
   | exact ih3 _ _ _ _ _ _ _ _ _ _ _ _ _ _ _
   | exact ih4 _ _ _ _ _ _ _ _ _ _ _ _ _ _ _
   | exact armadalaw04_live.mono _
   | exact armadaref01_Small.mono _ _ _
   | exact armadaref03_Same.mono _ _ _
   | exact disk_Run.mono _ _ _ _ _
   | exact journal_Add.mono _ _ _ _ _ _ _
   | exact journal_Clean.mono _ _ _ _ _ _ _ _
   | exact journal_Open.mono _ _ _ _ _
   | exact LeO.none _
   | refine LeO.ite ?_ ?_
   | refine LeO.bind ?_ (fun _ => ?_)
set_option maxHeartbeats 8000000 in
set_option maxRecDepth 100000 in
theorem armadalaw04_JournalCrash.calls (k : Nat) (A0_0 : Option Addr) (c0_0 : Nat) (l0_0 : List ByteArray) (A0_1 : Option Addr) (c0_1 : Nat) (l0_1 : List (S29)) (a0_2 : Int) (a0_3 : Int) (a0_4 : ByteArray) (a0_5 : Int) (A0_6 : Option Addr) (c0_6 : Nat) (l0_6 : List Bool) (r : Bool) (w : World) (hr0_0 : Kd.C Kd.string w A0_0 l0_0.length l0_0) (hc0_0 : l0_0.length ≤ c0_0) (hr0_1 : Kd.C k29 w A0_1 l0_1.length l0_1) (hc0_1 : l0_1.length ≤ c0_1) (hr0_6 : Kd.C Kd.bool w A0_6 l0_6.length l0_6) (hc0_6 : l0_6.length ≤ c0_6) (h : armadalaw04_JournalCrash.f k l0_0 l0_1 a0_2 a0_3 a0_4 a0_5 l0_6 = some r) (hT_ : r = true := by rfl) :
  Calls Try.prog 6 #[.agg #[.slice A0_0 l0_0.length c0_0, .slice A0_1 l0_1.length c0_1, .int .i64 a0_2, .int .i64 a0_3, .string a0_4, .int .i64 a0_5, .slice A0_6 l0_6.length c0_6]] w fun e w' => e = .returned (.bool r) ∧ Below w.heap.size w w' := by
 subst hT_
 have hu65 := Try.underlying65
 have hu25 := Try.underlying25
 have hu27 := Try.underlying27
 have hu40 := Try.underlying40
 have hu37 := Try.underlying37
 have HR0_0 := Aside0.mk hr0_0
 have HC0_0 := Aside0.mk hc0_0
 clear hr0_0 hc0_0
 have HR0_1 := Aside0.mk hr0_1
 have HC0_1 := Aside0.mk hc0_1
 clear hr0_1 hc0_1
 have HR0_6 := Aside0.mk hr0_6
 have HC0_6 := Aside0.mk hc0_6
 clear hr0_6 hc0_6
 have HB := Aside0.mk (Below.refl w.heap.size w)
 have H := h
 unfold armadalaw04_JournalCrash.f at H
 clear h
 have HC2 := Aside0.mk H
 clear H
 go_enter Try.func6, Try.ntmps6
 go_upto_region 1 with (first | ((with_reducible refine gate_dst (N := 1) rfl ?_); (try (refine gate_guard (by rfl) ?_; dsimp only)); refine bE (N := 1) (cs := #[.slice A0_0 l0_0.length c0_0, .slice A0_1 l0_1.length c0_1, .int .i64 a0_2, .int .i64 a0_3, .string a0_4, .int .i64 a0_5, .slice A0_6 l0_6.length c0_6]) (t := 65) ?_; intro gb612 hg w3 hbox hb; have hz_ := zqA HB hb; replace hb := below_step hz_ hb; have BK612 := Aside0.mk hbox; have GW612 := zG HB hz_ hg; have GE612 := zG HB hz_ hg; replace HB := zH HB hb; clear hz_; clear hb hbox hg))
 (try simp only [Act.put, List.setIfInBounds_toArray, List.set_cons_zero, List.set_cons_succ])
 go_cut [33] (fun v33 wc => ∃ (kq : Nat) (x33_1 : Bool), v33 = .bool x33_1 ∧ Aside0 (armadalaw04_JournalCrash.j0 kq x33_1 l0_0 l0_1 a0_2 a0_3 a0_4 a0_5 l0_6 = some true) ∧ Aside0 (kq ≤ k) ∧ Aside0 (wc.heap[gb612]? = some (.cells #[(.slice A0_0 l0_0.length c0_0), (.slice A0_1 l0_1.length c0_1), .int .i64 a0_2, .int .i64 a0_3, .string a0_4, .int .i64 a0_5, (.slice A0_6 l0_6.length c0_6)] 65 (0, 0))) ∧ Aside0 (Below w.heap.size w wc))
 case first =>
  have H := HC2.out
  clear HC2
  replace H := Option.bind_eq_some_iff.mp H
  obtain ⟨t613, A40, H⟩ := H
  try dsimp only at H
  have A4 := Aside0.mk A40
  clear A40
  by_cases c5 : t613 = true
  ·subst c5
   rw [if_pos rfl] at H
   by_cases c6 : (l0_1.length : Int) > 0
   ·rw [if_pos c6] at H
    have c6b0 : decide (0 < (l0_1.length : Int)) = true := decide_eq_true c6
    have c6b1 : decide (0 < l0_1.length) = true := decide_eq_true (by omega)
    clear c6
    (first | rw [c6b0] | (simp only [i64_w, i32_w]; rw [c6b0]) | skip)
    have H' := Aside0.mk H
    clear H
    have hcz7_0 := c0_ BK612
    have hcz7_1 := c1_ BK612
    have hcz7_2 := c2_ BK612
    have hcz7_3 := c3_ BK612
    have hcz7_4 := c4_ BK612
    have hcz7_5 : w3.cell? ⟨gb612, 5, none⟩ = some (.int .i64 a0_5) := (xC_ BK612.out 5).trans rfl
    have hcz7_6 : w3.cell? ⟨gb612, 6, none⟩ = some (.slice A0_6 l0_6.length c0_6) := (xC_ BK612.out 6).trans rfl
    have hfz7_0 := f_ BK612 0
    have hfz7_1 := f_ BK612 1
    have hfz7_2 := f_ BK612 2
    have hfz7_3 := f_ BK612 3
    have hfz7_4 := f_ BK612 4
    have hfz7_5 := f_ BK612 5
    have hfz7_6 := f_ BK612 6
    go_wp2_with (first | ((with_reducible refine gate_callee (f := 7) rfl ?_); refine gL (some 19) Try.func7 #[.agg #[.slice A0_0 l0_0.length c0_0, .slice A0_1 l0_1.length c0_1]] ?_; (with_reducible refine (armadaref01_Small.calls k _ _ l0_0 _ _ l0_1 true _ ?side1 ?side2 ?side3 ?side4 A4.out).mono ?_); (case side1 => exact qC HR0_0); (case side2 => exact HC0_0.out); (case side3 => exact qC HR0_1); (case side4 => exact HC0_1.out); rintro e w8 ⟨rfl, hb⟩; refine ⟨_, rfl, ?_⟩; have hz_ := zqA HB hb; replace hb := below_step hz_ hb; replace BK612 := zB BK612 hb; replace HB := zH HB hb; clear hz_; (try clear hb); have hcz9_0 := c0_ BK612; have hcz9_1 := c1_ BK612; have hcz9_2 := c2_ BK612; have hcz9_3 := c3_ BK612; have hcz9_4 := c4_ BK612; have hcz9_5 : w8.cell? ⟨gb612, 5, none⟩ = some (.int .i64 a0_5) := (xC_ BK612.out 5).trans rfl; have hcz9_6 : w8.cell? ⟨gb612, 6, none⟩ = some (.slice A0_6 l0_6.length c0_6) := (xC_ BK612.out 6).trans rfl; have hfz9_0 := f_ BK612 0; have hfz9_1 := f_ BK612 1; have hfz9_2 := f_ BK612 2; have hfz9_3 := f_ BK612 3; have hfz9_4 := f_ BK612 4; have hfz9_5 := f_ BK612 5; have hfz9_6 := f_ BK612 6))
    go_meet
    case rel => exact ⟨_, (true), eY, H', ⟨by first | omega | exact Nat.le_refl _⟩, ⟨qB BK612⟩, ⟨qH⟩⟩
   ·rw [if_neg c6] at H
    have c6b0 : decide (0 < (l0_1.length : Int)) = false := decide_eq_false c6
    have c6b1 : decide (0 < l0_1.length) = false := decide_eq_false (by omega)
    clear c6
    (first | rw [c6b0] | (simp only [i64_w, i32_w]; rw [c6b0]) | skip)
    have H' := Aside0.mk H
    clear H
    have hcz10_0 := c0_ BK612
    have hcz10_1 := c1_ BK612
    have hcz10_2 := c2_ BK612
    have hcz10_3 := c3_ BK612
    have hcz10_4 := c4_ BK612
    have hcz10_5 : w3.cell? ⟨gb612, 5, none⟩ = some (.int .i64 a0_5) := (xC_ BK612.out 5).trans rfl
    have hcz10_6 : w3.cell? ⟨gb612, 6, none⟩ = some (.slice A0_6 l0_6.length c0_6) := (xC_ BK612.out 6).trans rfl
    have hfz10_0 := f_ BK612 0
    have hfz10_1 := f_ BK612 1
    have hfz10_2 := f_ BK612 2
    have hfz10_3 := f_ BK612 3
    have hfz10_4 := f_ BK612 4
    have hfz10_5 := f_ BK612 5
    have hfz10_6 := f_ BK612 6
    go_wp2_with (first | ((with_reducible refine gate_callee (f := 7) rfl ?_); refine gL (some 19) Try.func7 #[.agg #[.slice A0_0 l0_0.length c0_0, .slice A0_1 l0_1.length c0_1]] ?_; (with_reducible refine (armadaref01_Small.calls k _ _ l0_0 _ _ l0_1 true _ ?side1 ?side2 ?side3 ?side4 A4.out).mono ?_); (case side1 => exact qC HR0_0); (case side2 => exact HC0_0.out); (case side3 => exact qC HR0_1); (case side4 => exact HC0_1.out); rintro e w11 ⟨rfl, hb⟩; refine ⟨_, rfl, ?_⟩; have hz_ := zqA HB hb; replace hb := below_step hz_ hb; replace BK612 := zB BK612 hb; replace HB := zH HB hb; clear hz_; (try clear hb); have hcz12_0 := c0_ BK612; have hcz12_1 := c1_ BK612; have hcz12_2 := c2_ BK612; have hcz12_3 := c3_ BK612; have hcz12_4 := c4_ BK612; have hcz12_5 : w11.cell? ⟨gb612, 5, none⟩ = some (.int .i64 a0_5) := (xC_ BK612.out 5).trans rfl; have hcz12_6 : w11.cell? ⟨gb612, 6, none⟩ = some (.slice A0_6 l0_6.length c0_6) := (xC_ BK612.out 6).trans rfl; have hfz12_0 := f_ BK612 0; have hfz12_1 := f_ BK612 1; have hfz12_2 := f_ BK612 2; have hfz12_3 := f_ BK612 3; have hfz12_4 := f_ BK612 4; have hfz12_5 := f_ BK612 5; have hfz12_6 := f_ BK612 6))
    go_meet
    case rel => exact ⟨_, (decide ((l0_6.length : Int) > 1000)), eY, H', ⟨by first | omega | exact Nat.le_refl _⟩, ⟨qB BK612⟩, ⟨qH⟩⟩
  ·replace c5 := Bool.eq_false_iff.mpr c5
   subst c5
   rw [if_neg nF_] at H
   have H' := Aside0.mk H
   clear H
   have hcz13_0 := c0_ BK612
   have hcz13_1 := c1_ BK612
   have hcz13_2 := c2_ BK612
   have hcz13_3 := c3_ BK612
   have hcz13_4 := c4_ BK612
   have hcz13_5 : w3.cell? ⟨gb612, 5, none⟩ = some (.int .i64 a0_5) := (xC_ BK612.out 5).trans rfl
   have hcz13_6 : w3.cell? ⟨gb612, 6, none⟩ = some (.slice A0_6 l0_6.length c0_6) := (xC_ BK612.out 6).trans rfl
   have hfz13_0 := f_ BK612 0
   have hfz13_1 := f_ BK612 1
   have hfz13_2 := f_ BK612 2
   have hfz13_3 := f_ BK612 3
   have hfz13_4 := f_ BK612 4
   have hfz13_5 := f_ BK612 5
   have hfz13_6 := f_ BK612 6
   go_wp2_with (first | ((with_reducible refine gate_callee (f := 7) rfl ?_); refine gL (some 19) Try.func7 #[.agg #[.slice A0_0 l0_0.length c0_0, .slice A0_1 l0_1.length c0_1]] ?_; (with_reducible refine (armadaref01_Small.calls k _ _ l0_0 _ _ l0_1 false _ ?side1 ?side2 ?side3 ?side4 A4.out).mono ?_); (case side1 => exact qC HR0_0); (case side2 => exact HC0_0.out); (case side3 => exact qC HR0_1); (case side4 => exact HC0_1.out); rintro e w14 ⟨rfl, hb⟩; refine ⟨_, rfl, ?_⟩; have hz_ := zqA HB hb; replace hb := below_step hz_ hb; replace BK612 := zB BK612 hb; replace HB := zH HB hb; clear hz_; (try clear hb)))
   go_meet
   case rel => exact ⟨_, (true), eY, H', ⟨by first | omega | exact Nat.le_refl _⟩, ⟨qB BK612⟩, ⟨qH⟩⟩
 case rest =>
  clear HC2
  (try clear p2)
  obtain ⟨kq, x33_1, rfl, HA, HJ1, BK612, HB⟩ := hcut
  cases kq with
  | zero => exact absurd HA.out (by simp [armadalaw04_JournalCrash.j0])
  | succ kj1 =>
   have H := HA.out
   clear HA
   simp only [armadalaw04_JournalCrash.j0] at H
   by_cases c15 : x33_1 = true
   ·subst c15
    rw [if_pos rfl] at H
    replace H := Option.bind_eq_some_iff.mp H
    obtain ⟨t614, A160, H⟩ := H
    try dsimp only at H
    have A16 := Aside0.mk A160
    clear A160
    obtain rfl := Option.some.inj H
    go_wp2_with (first | ((with_reducible refine gate_callee (f := 9) rfl ?_); refine gL (some 34) Try.func9 #[] ?_; (with_reducible refine (armadalaw04_live.calls kj1  true _ A16.out).mono ?_); rintro e w17 ⟨rfl, hb⟩; refine ⟨_, rfl, ?_⟩; have hz_ := zqA HB hb; replace hb := below_step hz_ hb; replace BK612 := zB BK612 hb; replace HB := zH HB hb; clear hz_; (try clear hb)))
    go_ret
    exact ⟨eX, qH⟩
   ·replace c15 := Bool.eq_false_iff.mpr c15
    subst c15
    rw [if_neg nF_] at H
    replace H := Option.bind_eq_some_iff.mp H
    obtain ⟨⟨t616, t617, t620, t621⟩, A180, H⟩ := H
    try dsimp only at H
    have A18 := Aside0.mk A180
    clear A180
    have HC19 := Aside0.mk H
    clear H
    have hcz20_0 := c0_ BK612
    have hcz20_1 := c1_ BK612
    have hcz20_2 := c2_ BK612
    have hcz20_3 := c3_ BK612
    have hcz20_4 := c4_ BK612
    have hcz20_5 : wc.cell? ⟨gb612, 5, none⟩ = some (.int .i64 a0_5) := (xC_ BK612.out 5).trans rfl
    have hcz20_6 : wc.cell? ⟨gb612, 6, none⟩ = some (.slice A0_6 l0_6.length c0_6) := (xC_ BK612.out 6).trans rfl
    have hfz20_0 := f_ BK612 0
    have hfz20_1 := f_ BK612 1
    have hfz20_2 := f_ BK612 2
    have hfz20_3 := f_ BK612 3
    have hfz20_4 := f_ BK612 4
    have hfz20_5 := f_ BK612 5
    have hfz20_6 := f_ BK612 6
    go_upto_region 5 with (first | ((with_reducible refine gate_dst (N := 3) rfl ?_); (try (refine gate_guard (by rfl) ?_; dsimp only)); refine bE (N := 3) (cs := #[.int .i64 0, .int .i64 0]) (t := 40) ?_; intro gb615 hg w21 hbox hb; have hz_ := zqA HB hb; replace hb := below_step hz_ hb; have BK615 := Aside0.mk hbox; have GW615 := zG HB hz_ hg; have GE615 := zG HB hz_ hg; have NB612_615 := zN BK612 hz_ hg; have NB615_612 := zM BK612 hz_ hg; replace BK612 := zB BK612 hb; replace HB := zH HB hb; clear hz_; clear hb hbox hg; obtain ⟨hnb22, hnc22⟩ := nn_ NB615_612; obtain ⟨hcz23_0, hcz23_1, hfz23_0, hfz23_1⟩ := e2_ BK615; have hcz24_0 := c0_ BK612; have hcz24_1 := c1_ BK612; have hcz24_2 := c2_ BK612; have hcz24_3 := c3_ BK612; have hcz24_4 := c4_ BK612; have hcz24_5 : w21.cell? ⟨gb612, 5, none⟩ = some (.int .i64 a0_5) := (xC_ BK612.out 5).trans rfl; have hcz24_6 : w21.cell? ⟨gb612, 6, none⟩ = some (.slice A0_6 l0_6.length c0_6) := (xC_ BK612.out 6).trans rfl; have hfz24_0 := f_ BK612 0; have hfz24_1 := f_ BK612 1; have hfz24_2 := f_ BK612 2; have hfz24_3 := f_ BK612 3; have hfz24_4 := f_ BK612 4; have hfz24_5 := f_ BK612 5; have hfz24_6 := f_ BK612 6) | ((with_reducible refine gate_callee (f := 11) rfl ?_); refine gL (some 41) Try.func11 #[.agg #[.slice A0_0 l0_0.length c0_0, .slice A0_1 l0_1.length c0_1], .agg #[.int .i64 a0_2, .int .i64 a0_3]] ?_; (with_reducible refine (journal_Open.calls kj1 _ _ l0_0 _ _ l0_1 a0_2 a0_3 t616 t617 t620 t621 _ ?side1 ?side2 ?side3 ?side4 A18.out).mono ?_); (case side1 => exact Kd.C_below HR0_0.out qH); (case side2 => exact HC0_0.out); (case side3 => exact Kd.C_below HR0_1.out qH); (case side4 => exact HC0_1.out); rintro e w25 ⟨v618, rfl, ho0, hb⟩; refine ⟨_, rfl, ?_⟩; have HO619 := Aside0.mk (Kd.R_lower ho0 (below_size qH)); replace BK612 := wF BK612 hb; replace BK615 := wP2 BK615 hb; replace HB := wH hb; (try clear hb); (try clear ho0)) | ((with_reducible refine gate_dst (N := 4) rfl ?_); (try (refine gate_guard (by rfl) ?_; dsimp only)); refine bE (N := 4) (cs := #[.int .i64 0, .slice none 0 0, .int .i64 0]) (t := 37) ?_; intro gb622 hg w26 hbox hb; have hz_ := zqA HB hb; replace hb := below_step hz_ hb; replace HO619 := zR HO619 hb; have BK622 := Aside0.mk hbox; have GW622 := zG HB hz_ hg; have GE622 := zG HB hz_ hg; have NB612_622 := zN BK612 hz_ hg; have NB622_612 := zM BK612 hz_ hg; have NB615_622 := zN BK615 hz_ hg; have NB622_615 := zM BK615 hz_ hg; replace BK612 := zB BK612 hb; replace BK615 := zB BK615 hb; replace HB := zH HB hb; clear hz_; clear hb hbox hg; obtain ⟨hnb27, hnc27⟩ := nn_ NB622_612; obtain ⟨hnb28, hnc28⟩ := nn_ NB622_615; obtain ⟨hcz29_0, hcz29_1, hcz29_2, hfz29_0, hfz29_1, hfz29_2⟩ := e3_ BK622; obtain ⟨Ao30, co30, eo30⟩ := Kd.R_slice HO619.out; subst eo30))
    (try simp only [Act.put, List.setIfInBounds_toArray, List.set_cons_zero, List.set_cons_succ])
    go_cut [53] (fun v53 wc => ∃ (kq : Nat) (x53_18 : Bool), v53 = .bool x53_18 ∧ Aside0 (armadalaw04_JournalCrash.j1 kq x53_18 l0_0 l0_1 a0_2 a0_3 a0_4 a0_5 l0_6 a0_2 a0_3 t616 t617 t620 = some true) ∧ Aside0 (kq ≤ kj1) ∧ Aside0 (Kd.R Kd.string 9 wc w.heap.size (fun _ => True) (.slice Ao30 t617.length co30) t617) ∧ Aside0 (wc.heap[gb612]? = some (.cells #[(.slice A0_0 l0_0.length c0_0), (.slice A0_1 l0_1.length c0_1), .int .i64 a0_2, .int .i64 a0_3, .string a0_4, .int .i64 a0_5, (.slice A0_6 l0_6.length c0_6)] 65 (0, 0))) ∧ Aside0 (wc.heap[gb615]? = some (.cells #[.int .i64 a0_2, .int .i64 a0_3] 40 (0, 0))) ∧ Aside0 (wc.heap[gb622]? = some (.cells #[.int .i64 t616, (.slice Ao30 t617.length co30), .int .i64 t620] 37 (0, 0))) ∧ Aside0 (Below w.heap.size w wc))
    case first =>
     have H := HC19.out
     clear HC19
     by_cases c31 : t621 = 0
     ·rw [if_pos c31] at H
      have c31b0 : (t621 == 0) = true := beq_iff_eq.mpr c31
      have c31b1 : (t621 != 0) = false := bne_eq_false_iff_eq.mpr c31
      clear c31
      (first | rw [c31b0] | (simp only [i64_w, i32_w]; rw [c31b0]) | skip)
      replace H := Option.bind_eq_some_iff.mp H
      obtain ⟨t623, A320, H⟩ := H
      try dsimp only at H
      have A32 := Aside0.mk A320
      clear A320
      have H' := Aside0.mk H
      clear H
      obtain ⟨hnb33, hnc33⟩ := nn_ NB612_615
      obtain ⟨hnb34, hnc34⟩ := nn_ NB612_622
      have hcz35_0 := c0_ BK612
      have hcz35_1 := c1_ BK612
      have hcz35_2 := c2_ BK612
      have hcz35_3 := c3_ BK612
      have hcz35_4 := c4_ BK612
      have hcz35_5 : w26.cell? ⟨gb612, 5, none⟩ = some (.int .i64 a0_5) := (xC_ BK612.out 5).trans rfl
      have hcz35_6 : w26.cell? ⟨gb612, 6, none⟩ = some (.slice A0_6 l0_6.length c0_6) := (xC_ BK612.out 6).trans rfl
      have hfz35_0 := f_ BK612 0
      have hfz35_1 := f_ BK612 1
      have hfz35_2 := f_ BK612 2
      have hfz35_3 := f_ BK612 3
      have hfz35_4 := f_ BK612 4
      have hfz35_5 := f_ BK612 5
      have hfz35_6 := f_ BK612 6
      obtain ⟨hnb36, hnc36⟩ := nn_ NB615_622
      obtain ⟨hcz37_0, hcz37_1, hfz37_0, hfz37_1⟩ := e2_ BK615
      obtain ⟨hcz38_0, hcz38_1, hcz38_2, hfz38_0, hfz38_1, hfz38_2⟩ := e3_ BK622
      go_wp2_with (first | (go_at_call 14; (with_reducible refine (journal_Clean.calls kj1 _ _ l0_0 _ _ l0_1 a0_2 a0_3 t616 _ _ t617 t620 t623 _ ?side1 ?side2 ?side3 ?side4 ?side5 ?side6 A32.out).mono ?_); (case side1 => exact Kd.C_below HR0_0.out qH); (case side2 => exact HC0_0.out); (case side3 => exact Kd.C_below HR0_1.out qH); (case side4 => exact HC0_1.out); (case side5 => refine (Kd.R_reads' (e := 9) (base := w.heap.size) (ok := fun k_ => True) (n := t617.length) (c := co30) ?_).2.2; exact (qR (rF3 HO619.out BK622))); (case side6 => exact (Kd.R_reads' HO619.out).2.1); rintro e w39 ⟨rfl, hb⟩; replace HO619 := Aside0.mk (Kd.R_below (qR (rF3 HO619.out BK622)) hb); replace BK612 := wF BK612 hb; replace BK615 := wF BK615 hb; replace HB := wH hb; replace BK622 := wP3 BK622 hb; (try clear hb)))
      go_meet
      case rel => exact ⟨_, (!t623), eY, H', ⟨by have := HJ1.out; first | omega | exact Nat.le_refl _⟩, ⟨qR HO619.out⟩, ⟨qB BK612⟩, ⟨qB BK615⟩, ⟨qB BK622⟩, ⟨qH⟩⟩
     ·rw [if_neg c31] at H
      have c31b0 : (t621 == 0) = false := beq_eq_false_iff_ne.mpr c31
      have c31b1 : (t621 != 0) = true := bne_iff_ne.mpr c31
      (first | rw [c31b0] | (simp only [i64_w, i32_w]; rw [c31b0]) | skip)
      have H' := Aside0.mk H
      clear H
      go_wp2
      go_meet
      case rel => exact ⟨_, (true), eY, H', ⟨by have := HJ1.out; first | omega | exact Nat.le_refl _⟩, ⟨by (with_reducible repeat (first | apply Kd.R_alloc | apply Kd.R_drewN | apply Kd.R_drew)); exact Kd.R_mono (rG3 HO619.out BK622) (fun _ hk => trivial)⟩, ⟨by (with_reducible repeat (first | apply xN_ | apply xD_ | apply xA_)); refine xR_ ?_ NB612_622.out _; refine xR_ ?_ NB612_622.out _; refine xR_ ?_ NB612_622.out _; (with_reducible repeat (first | apply xN_ | apply xD_ | apply xA_)); exact BK612.out⟩, ⟨by (with_reducible repeat (first | apply xN_ | apply xD_ | apply xA_)); refine xR_ ?_ NB615_622.out _; refine xR_ ?_ NB615_622.out _; refine xR_ ?_ NB615_622.out _; (with_reducible repeat (first | apply xN_ | apply xD_ | apply xA_)); exact BK615.out⟩, ⟨by (with_reducible repeat (first | apply xN_ | apply xD_ | apply xA_)); refine blk_put (cs := #[.int .i64 t616, .slice Ao30 t617.length co30, .int .i64 0]) ?_ 2 _ rfl; refine blk_put (cs := #[.int .i64 t616, .slice none 0 0, .int .i64 0]) ?_ 1 _ rfl; refine blk_put (cs := #[.int .i64 0, .slice none 0 0, .int .i64 0]) ?_ 0 _ rfl; (with_reducible repeat (first | apply xN_ | apply xD_ | apply xA_)); exact BK622.out⟩, ⟨qH⟩⟩
    case rest =>
     clear HC19
     (try clear p2); (try clear c15); (try clear hcz20_0); (try clear hcz20_1); (try clear hcz20_2); (try clear hcz20_3); (try clear hcz20_4); (try clear hcz20_5)
     (try clear hcz20_6); (try clear hcz23_0); (try clear hcz23_1); (try clear hcz24_0); (try clear hcz24_1); (try clear hcz24_2); (try clear hcz24_3); (try clear hcz24_4)
     (try clear hcz24_5); (try clear hcz24_6); (try clear hcz29_0); (try clear hcz29_1); (try clear hcz29_2); (try clear hfz20_0); (try clear hfz20_1); (try clear hfz20_2)
     (try clear hfz20_3); (try clear hfz20_4); (try clear hfz20_5); (try clear hfz20_6); (try clear hfz23_0); (try clear hfz23_1); (try clear hfz24_0); (try clear hfz24_1)
     (try clear hfz24_2); (try clear hfz24_3); (try clear hfz24_4); (try clear hfz24_5); (try clear hfz24_6); (try clear hfz29_0); (try clear hfz29_1); (try clear hfz29_2)
     (try clear p2)
     obtain ⟨kq, x53_18, rfl, HA, HJ18, HO_623001, BK612, BK615, BK622, HB⟩ := hcut
     cases kq with
     | zero => exact absurd HA.out (by simp [armadalaw04_JournalCrash.j1])
     | succ kj18 =>
      have H := HA.out
      clear HA
      simp only [armadalaw04_JournalCrash.j1] at H
      by_cases c40 : x53_18 = true
      ·subst c40
       rw [if_pos rfl] at H
       replace H := Option.bind_eq_some_iff.mp H
       obtain ⟨t624, A410, H⟩ := H
       try dsimp only at H
       have A41 := Aside0.mk A410
       clear A410
       obtain rfl := Option.some.inj H
       go_wp2_with (first | ((with_reducible refine gate_callee (f := 9) rfl ?_); refine gL (some 54) Try.func9 #[] ?_; (with_reducible refine (armadalaw04_live.calls kj18  true _ A41.out).mono ?_); rintro e w42 ⟨rfl, hb⟩; refine ⟨_, rfl, ?_⟩; have hz_ := zqA HB hb; replace hb := below_step hz_ hb; replace HO_623001 := zR HO_623001 hb; replace BK612 := zB BK612 hb; replace BK615 := zB BK615 hb; replace BK622 := zB BK622 hb; replace HB := zH HB hb; clear hz_; (try clear hb)))
       go_ret
       exact ⟨eX, qH⟩
      ·replace c40 := Bool.eq_false_iff.mpr c40
       subst c40
       rw [if_neg nF_] at H
       replace H := Option.bind_eq_some_iff.mp H
       obtain ⟨⟨t625, t628⟩, A430, H⟩ := H
       try dsimp only at H
       have A43 := Aside0.mk A430
       clear A430
       by_cases c44 : t628 = 0
       ·rw [if_pos c44] at H
        have c44b0 : (t628 == 0) = true := beq_iff_eq.mpr c44
        have c44b1 : (t628 != 0) = false := bne_eq_false_iff_eq.mpr c44
        clear c44
        replace H := Option.bind_eq_some_iff.mp H
        obtain ⟨⟨t630, t633, t636⟩, A450, H⟩ := H
        try dsimp only at H
        have A45 := Aside0.mk A450
        clear A450
        replace H := Option.bind_eq_some_iff.mp H
        obtain ⟨⟨t638, t641, t644⟩, A460, H⟩ := H
        try dsimp only at H
        have A46 := Aside0.mk A460
        clear A460
        have HC47 := Aside0.mk H
        clear H
        obtain ⟨hnb48, hnc48⟩ := nn_ NB615_612
        obtain ⟨hnb49, hnc49⟩ := nn_ NB615_622
        obtain ⟨hcz50_0, hcz50_1, hfz50_0, hfz50_1⟩ := e2_ BK615
        obtain ⟨hnb51, hnc51⟩ := nn_ NB622_612
        obtain ⟨hcz52_0, hcz52_1, hcz52_2, hfz52_0, hfz52_1, hfz52_2⟩ := e3_ BK622
        have hcz53_0 := c0_ BK612
        have hcz53_1 := c1_ BK612
        have hcz53_2 := c2_ BK612
        have hcz53_3 := c3_ BK612
        have hcz53_4 := c4_ BK612
        have hcz53_5 : wc.cell? ⟨gb612, 5, none⟩ = some (.int .i64 a0_5) := (xC_ BK612.out 5).trans rfl
        have hcz53_6 : wc.cell? ⟨gb612, 6, none⟩ = some (.slice A0_6 l0_6.length c0_6) := (xC_ BK612.out 6).trans rfl
        have hfz53_0 := f_ BK612 0
        have hfz53_1 := f_ BK612 1
        have hfz53_2 := f_ BK612 2
        have hfz53_3 := f_ BK612 3
        have hfz53_4 := f_ BK612 4
        have hfz53_5 := f_ BK612 5
        have hfz53_6 := f_ BK612 6
        go_upto_region 12 with (first | ((with_reducible refine gate_callee (f := 20) rfl ?_); refine gL (some 60) Try.func20 #[.agg #[.int .i64 a0_2, .int .i64 a0_3], .agg #[.int .i64 t616, .slice Ao30 t617.length co30, .int .i64 t620], .string a0_4] ?_; (with_reducible refine (journal_Add.calls kj18 a0_2 a0_3 t616 _ _ t617 t620 a0_4 t625 t628 _ ?side1 ?side2 A43.out).mono ?_); (case side1 => exact qK (Kd.R_reads' HO_623001.out).2.2); (case side2 => exact (Kd.R_reads' HO_623001.out).2.1); rintro e w54 ⟨v626, rfl, ho0, hb⟩; refine ⟨_, rfl, ?_⟩; replace HO_623001 := Aside0.mk (Kd.R_below (qR HO_623001.out) hb); have HO627 := Aside0.mk (Kd.R_lower ho0 (below_size qH)); replace BK612 := wB BK612 hb; replace BK615 := wB BK615 hb; replace BK622 := wB BK622 hb; replace HB := wH hb; (try clear hb); (try clear ho0); have hcz55_0 := c0_ BK612; have hcz55_1 := c1_ BK612; have hcz55_2 := c2_ BK612; have hcz55_3 := c3_ BK612; have hcz55_4 := c4_ BK612; have hcz55_5 : w54.cell? ⟨gb612, 5, none⟩ = some (.int .i64 a0_5) := (xC_ BK612.out 5).trans rfl; have hcz55_6 : w54.cell? ⟨gb612, 6, none⟩ = some (.slice A0_6 l0_6.length c0_6) := (xC_ BK612.out 6).trans rfl; have hfz55_0 := f_ BK612 0; have hfz55_1 := f_ BK612 1; have hfz55_2 := f_ BK612 2; have hfz55_3 := f_ BK612 3; have hfz55_4 := f_ BK612 4; have hfz55_5 := f_ BK612 5; have hfz55_6 := f_ BK612 6; obtain ⟨Ao56, co56, eo56⟩ := Kd.R_slice HO627.out; subst eo56) | ((with_reducible refine gate_callee (f := 16) rfl ?_); refine gL (some 77) Try.func16 #[.agg #[.slice A0_0 l0_0.length c0_0, .slice A0_1 l0_1.length c0_1], .slice Ao56 t625.length co56, .int .i64 a0_5] ?_; (with_reducible refine (disk_Run.calls kj18 (fun k_ => k_ < w.heap.size) _ _ l0_0 (fun k_ => k_ < w.heap.size) _ _ l0_1 _ _ t625 a0_5 t630 t633 t636 _ ?side1 ?side2 ?side3 ?side4 A45.out).mono ?_); (case side1 => exact Kd.V_mk HC0_0.out (Kd.F_below (Kd.C_F Kd.heap_string HR0_0.out) qH)); (case side2 => exact Kd.V_mk HC0_1.out (Kd.F_below (Kd.C_F k29_heap HR0_1.out) qH)); (case side3 => exact qK (Kd.R_reads' HO627.out).2.2); (case side4 => exact (Kd.R_reads' HO627.out).2.1); rintro e w57 ⟨v631, v634, rfl, ho0, ho1, hb⟩; refine ⟨_, rfl, ?_⟩; have HO632 := Aside0.mk (Kd.V_lower (Kd.V_mono (ok' := fun k_ => some k_ ≠ (.slice Ao30 t617.length co30 : Value).ownBlock ∧ some k_ ≠ (.slice Ao56 t625.length co56 : Value).ownBlock ∧ k_ ≠ gb612 ∧ k_ ≠ gb615 ∧ k_ ≠ gb622) ho0 (fun k_ hk_ => ⟨Or.elim hk_ (fun hs_ => Or.elim hs_ (fun hs_ => fun e_ => Nat.not_le.2 hs_ (Kd.R_base HO_623001.out k_ e_.symm)) (fun hs_ => fun e_ => Nat.not_le.2 hs_ (Kd.R_base HO_623001.out k_ e_.symm))) (fun hn_ => (Kd.fresh' (Kd.R_lt (qR HO_623001.out)) k_ hn_)), Or.elim hk_ (fun hs_ => Or.elim hs_ (fun hs_ => fun e_ => Nat.not_le.2 hs_ (Kd.R_base HO627.out k_ e_.symm)) (fun hs_ => fun e_ => Nat.not_le.2 hs_ (Kd.R_base HO627.out k_ e_.symm))) (fun hn_ => (Kd.fresh' (Kd.R_lt (qR HO627.out)) k_ hn_)), Or.elim hk_ (fun hs_ => Or.elim hs_ (fun hs_ => fun e_ => Nat.not_le.2 hs_ (by rw [e_]; exact GW612.out)) (fun hs_ => fun e_ => Nat.not_le.2 hs_ (by rw [e_]; exact GW612.out))) (fun hn_ => (Kd.freshB (g := gb612) (o := .cells #[.slice A0_0 l0_0.length c0_0, .slice A0_1 l0_1.length c0_1, .int .i64 a0_2, .int .i64 a0_3, .string a0_4, .int .i64 a0_5, .slice A0_6 l0_6.length c0_6] 65 (0, 0)) (qB BK612) k_ hn_)), Or.elim hk_ (fun hs_ => Or.elim hs_ (fun hs_ => fun e_ => Nat.not_le.2 hs_ (by rw [e_]; exact GW615.out)) (fun hs_ => fun e_ => Nat.not_le.2 hs_ (by rw [e_]; exact GW615.out))) (fun hn_ => (Kd.freshB (g := gb615) (o := .cells #[.int .i64 a0_2, .int .i64 a0_3] 40 (0, 0)) (qB BK615) k_ hn_)), Or.elim hk_ (fun hs_ => Or.elim hs_ (fun hs_ => fun e_ => Nat.not_le.2 hs_ (by rw [e_]; exact GW622.out)) (fun hs_ => fun e_ => Nat.not_le.2 hs_ (by rw [e_]; exact GW622.out))) (fun hn_ => (Kd.freshB (g := gb622) (o := .cells #[.int .i64 t616, .slice Ao30 t617.length co30, .int .i64 t620] 37 (0, 0)) (qB BK622) k_ hn_))⟩)) (below_size qH)); have HO635 := Aside0.mk (Kd.V_lower (Kd.V_mono (ok' := fun k_ => some k_ ≠ (.slice Ao30 t617.length co30 : Value).ownBlock ∧ some k_ ≠ (.slice Ao56 t625.length co56 : Value).ownBlock ∧ k_ ≠ gb612 ∧ k_ ≠ gb615 ∧ k_ ≠ gb622) ho1 (fun k_ hk_ => ⟨Or.elim hk_ (fun hs_ => Or.elim hs_ (fun hs_ => fun e_ => Nat.not_le.2 hs_ (Kd.R_base HO_623001.out k_ e_.symm)) (fun hs_ => fun e_ => Nat.not_le.2 hs_ (Kd.R_base HO_623001.out k_ e_.symm))) (fun hn_ => (Kd.fresh' (Kd.R_lt (qR HO_623001.out)) k_ hn_)), Or.elim hk_ (fun hs_ => Or.elim hs_ (fun hs_ => fun e_ => Nat.not_le.2 hs_ (Kd.R_base HO627.out k_ e_.symm)) (fun hs_ => fun e_ => Nat.not_le.2 hs_ (Kd.R_base HO627.out k_ e_.symm))) (fun hn_ => (Kd.fresh' (Kd.R_lt (qR HO627.out)) k_ hn_)), Or.elim hk_ (fun hs_ => Or.elim hs_ (fun hs_ => fun e_ => Nat.not_le.2 hs_ (by rw [e_]; exact GW612.out)) (fun hs_ => fun e_ => Nat.not_le.2 hs_ (by rw [e_]; exact GW612.out))) (fun hn_ => (Kd.freshB (g := gb612) (o := .cells #[.slice A0_0 l0_0.length c0_0, .slice A0_1 l0_1.length c0_1, .int .i64 a0_2, .int .i64 a0_3, .string a0_4, .int .i64 a0_5, .slice A0_6 l0_6.length c0_6] 65 (0, 0)) (qB BK612) k_ hn_)), Or.elim hk_ (fun hs_ => Or.elim hs_ (fun hs_ => fun e_ => Nat.not_le.2 hs_ (by rw [e_]; exact GW615.out)) (fun hs_ => fun e_ => Nat.not_le.2 hs_ (by rw [e_]; exact GW615.out))) (fun hn_ => (Kd.freshB (g := gb615) (o := .cells #[.int .i64 a0_2, .int .i64 a0_3] 40 (0, 0)) (qB BK615) k_ hn_)), Or.elim hk_ (fun hs_ => Or.elim hs_ (fun hs_ => fun e_ => Nat.not_le.2 hs_ (by rw [e_]; exact GW622.out)) (fun hs_ => fun e_ => Nat.not_le.2 hs_ (by rw [e_]; exact GW622.out))) (fun hn_ => (Kd.freshB (g := gb622) (o := .cells #[.int .i64 t616, .slice Ao30 t617.length co30, .int .i64 t620] 37 (0, 0)) (qB BK622) k_ hn_))⟩)) (below_size qH)); replace HO_623001 := Aside0.mk (Kd.R_below (qR HO_623001.out) hb); replace HO627 := Aside0.mk (Kd.R_below (qR HO627.out) hb); replace BK612 := wB BK612 hb; replace BK615 := wB BK615 hb; replace BK622 := wB BK622 hb; replace HB := wH hb; (try clear hb); (try clear ho0); (try clear ho1)) | ((with_reducible refine gate_dst (N := 8) rfl ?_); (try (refine gate_guard (by rfl) ?_; dsimp only)); refine bE (N := 8) (cs := #[.slice none 0 0, .slice none 0 0]) (t := 25) ?_; intro gb637 hg w58 hbox hb; have hz_ := zqA HB hb; replace hb := below_step hz_ hb; replace HO_623001 := zR HO_623001 hb; replace HO627 := zR HO627 hb; replace HO632 := zE HO632 hz_ hg hb; replace HO635 := zE HO635 hz_ hg hb; have BK637 := Aside0.mk hbox; have GE637 := zG HB hz_ hg; have NB612_637 := zN BK612 hz_ hg; have NB637_612 := zM BK612 hz_ hg; have NB615_637 := zN BK615 hz_ hg; have NB637_615 := zM BK615 hz_ hg; have NB622_637 := zN BK622 hz_ hg; have NB637_622 := zM BK622 hz_ hg; replace BK612 := zB BK612 hb; replace BK615 := zB BK615 hb; replace BK622 := zB BK622 hb; replace HB := zH HB hb; clear hz_; clear hb hbox hg; obtain ⟨Ao59, co59, eo59⟩ := Kd.V_slice HO632.out; subst eo59; obtain ⟨hnb60, hnc60⟩ := nn_ NB637_612; obtain ⟨hnb61, hnc61⟩ := nn_ NB637_615; obtain ⟨hnb62, hnc62⟩ := nn_ NB637_622; obtain ⟨hcz63_0, hcz63_1, hfz63_0, hfz63_1⟩ := e2_ BK637; obtain ⟨Ao64, co64, eo64⟩ := Kd.V_slice HO635.out; subst eo64) | ((with_reducible refine gate_store (t := 25) (p := 8) rfl ?_); refine store_event (t := 25) (p := 8) (v := ?vo_w65) (w1 := ((w58.setCell ⟨gb637, 0, none⟩ (.slice Ao59 t630.length co59)).setCell ⟨gb637, 1, none⟩ (.slice Ao64 t633.length co64))) ?hg ?ho ?hn ?hr ?_; (case ho => rfl); (case hg => rfl); (case hn => rfl); (case hr => first | (go_simp; done) | (go_simp; rfl)); intro w65 hw; have n0_ : Aside0 (Kd.R Kd.string 9 w65 w.heap.size (fun _ => True) (.slice Ao30 t617.length co30) t617) := ⟨(by rw [hw]; exact (qR (Kd.R_mono (rG2 HO_623001.out BK637) (fun _ hk => trivial))))⟩; have n1_ : Aside0 (Kd.R k85 85 w65 w.heap.size (fun _ => True) (.slice Ao56 t625.length co56) t625) := ⟨(by rw [hw]; exact (qR (Kd.R_mono (rG2 HO627.out BK637) (fun _ hk => trivial))))⟩; have n2_ : Aside0 (Kd.V Kd.string 9 w65 w.heap.size (fun k_ => some k_ ≠ (.slice Ao30 t617.length co30 : Value).ownBlock ∧ some k_ ≠ (.slice Ao56 t625.length co56 : Value).ownBlock ∧ k_ ≠ gb612 ∧ k_ ≠ gb615 ∧ k_ ≠ gb622 ∧ k_ ≠ gb637) (.slice Ao59 t630.length co59) t630) := ⟨(by rw [hw]; exact (qV (Kd.V_mono (vG2 (g := gb637) HO632.out (fun _ hk => hk.2)) (fun _ hk => ⟨hk.1.1.1, ⟨hk.1.1.2.1, ⟨hk.1.1.2.2.1, ⟨hk.1.1.2.2.2.1, ⟨hk.1.1.2.2.2.2, hk.1.2⟩⟩⟩⟩⟩))))⟩; have n3_ : Aside0 (Kd.V k29 29 w65 w.heap.size (fun k_ => some k_ ≠ (.slice Ao30 t617.length co30 : Value).ownBlock ∧ some k_ ≠ (.slice Ao56 t625.length co56 : Value).ownBlock ∧ k_ ≠ gb612 ∧ k_ ≠ gb615 ∧ k_ ≠ gb622 ∧ k_ ≠ gb637) (.slice Ao64 t633.length co64) t633) := ⟨(by rw [hw]; exact (qV (Kd.V_mono (vG2 (g := gb637) HO635.out (fun _ hk => hk.2)) (fun _ hk => ⟨hk.1.1.1, ⟨hk.1.1.2.1, ⟨hk.1.1.2.2.1, ⟨hk.1.1.2.2.2.1, ⟨hk.1.1.2.2.2.2, hk.1.2⟩⟩⟩⟩⟩))))⟩; have n4_ : Aside0 (w65.heap[gb612]? = some (.cells #[.slice A0_0 l0_0.length c0_0, .slice A0_1 l0_1.length c0_1, .int .i64 a0_2, .int .i64 a0_3, .string a0_4, .int .i64 a0_5, .slice A0_6 l0_6.length c0_6] 65 (0, 0))) := ⟨(by rw [hw]; exact (qF BK612))⟩; have n5_ : Aside0 (w65.heap[gb615]? = some (.cells #[.int .i64 a0_2, .int .i64 a0_3] 40 (0, 0))) := ⟨(by rw [hw]; exact (qF BK615))⟩; have n6_ : Aside0 (w65.heap[gb622]? = some (.cells #[.int .i64 t616, .slice Ao30 t617.length co30, .int .i64 t620] 37 (0, 0))) := ⟨(by rw [hw]; exact (qF BK622))⟩; have n7_ : Aside0 (w65.heap[gb637]? = some (.cells #[.slice Ao59 t630.length co59, .slice Ao64 t633.length co64] 25 (0, 0))) := ⟨(by rw [hw]; exact (by (with_reducible repeat (first | apply xN_ | apply xD_ | apply xA_)); refine blk_put (cs := #[.slice Ao59 t630.length co59, .slice none 0 0]) ?_ 1 _ rfl; refine blk_put (cs := #[.slice none 0 0, .slice none 0 0]) ?_ 0 _ rfl; (with_reducible repeat (first | apply xN_ | apply xD_ | apply xA_)); exact BK637.out))⟩; have n8_ : Aside0 (Below w.heap.size w w65) := ⟨(by rw [hw]; exact qH)⟩; clear hw; clear HO_623001; clear HO627; clear HO632; clear HO635; clear BK612; clear BK615; clear BK622; clear BK637; clear HB; have HO_623001 := n0_; have HO627 := n1_; have HO632 := n2_; have HO635 := n3_; have BK612 := n4_; have BK615 := n5_; have BK622 := n6_; have BK637 := n7_; have HB := n8_; clear n0_ n1_ n2_ n3_ n4_ n5_ n6_ n7_ n8_; obtain ⟨hcz66_0, hcz66_1, hfz66_0, hfz66_1⟩ := e2_ BK637; have hcz67_0 := c0_ BK612; have hcz67_1 := c1_ BK612; have hcz67_2 := c2_ BK612; have hcz67_3 := c3_ BK612; have hcz67_4 := c4_ BK612; have hcz67_5 : w65.cell? ⟨gb612, 5, none⟩ = some (.int .i64 a0_5) := (xC_ BK612.out 5).trans rfl; have hcz67_6 : w65.cell? ⟨gb612, 6, none⟩ = some (.slice A0_6 l0_6.length c0_6) := (xC_ BK612.out 6).trans rfl; have hfz67_0 := f_ BK612 0; have hfz67_1 := f_ BK612 1; have hfz67_2 := f_ BK612 2; have hfz67_3 := f_ BK612 3; have hfz67_4 := f_ BK612 4; have hfz67_5 := f_ BK612 5; have hfz67_6 := f_ BK612 6) | ((with_reducible refine gate_callee (f := 23) rfl ?_); refine gL (some 84) Try.func23 #[.agg #[.slice Ao59 t630.length co59, .slice Ao64 t633.length co64], .slice A0_6 l0_6.length c0_6] ?_; (with_reducible refine (disk_Crash.calls (fun k_ => (some k_ ≠ (.slice Ao30 t617.length co30 : Value).ownBlock ∧ (some k_ ≠ (.slice Ao56 t625.length co56 : Value).ownBlock ∧ (k_ ≠ gb612 ∧ (k_ ≠ gb615 ∧ (k_ ≠ gb622 ∧ k_ ≠ gb637)))))) _ _ t630 (fun k_ => (some k_ ≠ (.slice Ao30 t617.length co30 : Value).ownBlock ∧ (some k_ ≠ (.slice Ao56 t625.length co56 : Value).ownBlock ∧ (k_ ≠ gb612 ∧ (k_ ≠ gb615 ∧ (k_ ≠ gb622 ∧ k_ ≠ gb637)))))) _ _ t633 _ _ l0_6 t638 t641 t644 _ ?side1 ?side2 ?side3 ?side4 A46.out).mono ?_); (case side1 => exact HO632.out); (case side2 => exact HO635.out); (case side3 => exact qC HR0_6); (case side4 => exact HC0_6.out); rintro e w68 ⟨v639, v642, rfl, ho0, ho1, hb⟩; refine ⟨_, rfl, ?_⟩; replace HO632 := Aside0.mk (Kd.V_below (qV HO632.out) hb); replace HO635 := Aside0.mk (Kd.V_below (qV HO635.out) hb); have HO640 := Aside0.mk (Kd.V_lower (Kd.V_mono (ok' := fun k_ => some k_ ≠ (.slice Ao30 t617.length co30 : Value).ownBlock ∧ some k_ ≠ (.slice Ao56 t625.length co56 : Value).ownBlock ∧ k_ ≠ gb612 ∧ k_ ≠ gb615 ∧ k_ ≠ gb622 ∧ k_ ≠ gb637) ho0 (fun k_ hk_ => ⟨Or.elim hk_ (fun hs_ => Or.elim hs_ (fun hs_ => hs_.1) (fun hs_ => hs_.1)) (fun hn_ => (Kd.fresh' (Kd.R_lt (qR HO_623001.out)) k_ hn_)), Or.elim hk_ (fun hs_ => Or.elim hs_ (fun hs_ => hs_.2.1) (fun hs_ => hs_.2.1)) (fun hn_ => (Kd.fresh' (Kd.R_lt (qR HO627.out)) k_ hn_)), Or.elim hk_ (fun hs_ => Or.elim hs_ (fun hs_ => hs_.2.2.1) (fun hs_ => hs_.2.2.1)) (fun hn_ => (Kd.freshB (g := gb612) (o := .cells #[.slice A0_0 l0_0.length c0_0, .slice A0_1 l0_1.length c0_1, .int .i64 a0_2, .int .i64 a0_3, .string a0_4, .int .i64 a0_5, .slice A0_6 l0_6.length c0_6] 65 (0, 0)) (qB BK612) k_ hn_)), Or.elim hk_ (fun hs_ => Or.elim hs_ (fun hs_ => hs_.2.2.2.1) (fun hs_ => hs_.2.2.2.1)) (fun hn_ => (Kd.freshB (g := gb615) (o := .cells #[.int .i64 a0_2, .int .i64 a0_3] 40 (0, 0)) (qB BK615) k_ hn_)), Or.elim hk_ (fun hs_ => Or.elim hs_ (fun hs_ => hs_.2.2.2.2.1) (fun hs_ => hs_.2.2.2.2.1)) (fun hn_ => (Kd.freshB (g := gb622) (o := .cells #[.int .i64 t616, .slice Ao30 t617.length co30, .int .i64 t620] 37 (0, 0)) (qB BK622) k_ hn_)), Or.elim hk_ (fun hs_ => Or.elim hs_ (fun hs_ => hs_.2.2.2.2.2) (fun hs_ => hs_.2.2.2.2.2)) (fun hn_ => (Kd.freshB (g := gb637) (o := .cells #[.slice Ao59 t630.length co59, .slice Ao64 t633.length co64] 25 (0, 0)) (qB BK637) k_ hn_))⟩)) (below_size qH)); have HO643 := Aside0.mk (Kd.V_lower (Kd.V_mono (ok' := fun k_ => some k_ ≠ (.slice Ao30 t617.length co30 : Value).ownBlock ∧ some k_ ≠ (.slice Ao56 t625.length co56 : Value).ownBlock ∧ k_ ≠ gb612 ∧ k_ ≠ gb615 ∧ k_ ≠ gb622 ∧ k_ ≠ gb637) ho1 (fun k_ hk_ => ⟨Or.elim hk_ (fun hs_ => Or.elim hs_ (fun hs_ => hs_.1) (fun hs_ => hs_.1)) (fun hn_ => (Kd.fresh' (Kd.R_lt (qR HO_623001.out)) k_ hn_)), Or.elim hk_ (fun hs_ => Or.elim hs_ (fun hs_ => hs_.2.1) (fun hs_ => hs_.2.1)) (fun hn_ => (Kd.fresh' (Kd.R_lt (qR HO627.out)) k_ hn_)), Or.elim hk_ (fun hs_ => Or.elim hs_ (fun hs_ => hs_.2.2.1) (fun hs_ => hs_.2.2.1)) (fun hn_ => (Kd.freshB (g := gb612) (o := .cells #[.slice A0_0 l0_0.length c0_0, .slice A0_1 l0_1.length c0_1, .int .i64 a0_2, .int .i64 a0_3, .string a0_4, .int .i64 a0_5, .slice A0_6 l0_6.length c0_6] 65 (0, 0)) (qB BK612) k_ hn_)), Or.elim hk_ (fun hs_ => Or.elim hs_ (fun hs_ => hs_.2.2.2.1) (fun hs_ => hs_.2.2.2.1)) (fun hn_ => (Kd.freshB (g := gb615) (o := .cells #[.int .i64 a0_2, .int .i64 a0_3] 40 (0, 0)) (qB BK615) k_ hn_)), Or.elim hk_ (fun hs_ => Or.elim hs_ (fun hs_ => hs_.2.2.2.2.1) (fun hs_ => hs_.2.2.2.2.1)) (fun hn_ => (Kd.freshB (g := gb622) (o := .cells #[.int .i64 t616, .slice Ao30 t617.length co30, .int .i64 t620] 37 (0, 0)) (qB BK622) k_ hn_)), Or.elim hk_ (fun hs_ => Or.elim hs_ (fun hs_ => hs_.2.2.2.2.2) (fun hs_ => hs_.2.2.2.2.2)) (fun hn_ => (Kd.freshB (g := gb637) (o := .cells #[.slice Ao59 t630.length co59, .slice Ao64 t633.length co64] 25 (0, 0)) (qB BK637) k_ hn_))⟩)) (below_size qH)); replace HO_623001 := Aside0.mk (Kd.R_below (qR HO_623001.out) hb); replace HO627 := Aside0.mk (Kd.R_below (qR HO627.out) hb); replace BK612 := wB BK612 hb; replace BK615 := wB BK615 hb; replace BK622 := wB BK622 hb; replace BK637 := wB BK637 hb; replace HB := wH hb; (try clear hb); (try clear ho0); (try clear ho1)) | ((with_reducible refine gate_dst (N := 10) rfl ?_); (try (refine gate_guard (by rfl) ?_; dsimp only)); refine bE (N := 10) (cs := #[.slice none 0 0, .slice none 0 0]) (t := 25) ?_; intro gb645 hg w69 hbox hb; have hz_ := zqA HB hb; replace hb := below_step hz_ hb; replace HO_623001 := zR HO_623001 hb; replace HO627 := zR HO627 hb; replace HO632 := zE HO632 hz_ hg hb; replace HO635 := zE HO635 hz_ hg hb; replace HO640 := zE HO640 hz_ hg hb; replace HO643 := zE HO643 hz_ hg hb; have BK645 := Aside0.mk hbox; have GE645 := zG HB hz_ hg; have NB612_645 := zN BK612 hz_ hg; have NB645_612 := zM BK612 hz_ hg; have NB615_645 := zN BK615 hz_ hg; have NB645_615 := zM BK615 hz_ hg; have NB622_645 := zN BK622 hz_ hg; have NB645_622 := zM BK622 hz_ hg; have NB637_645 := zN BK637 hz_ hg; have NB645_637 := zM BK637 hz_ hg; replace BK612 := zB BK612 hb; replace BK615 := zB BK615 hb; replace BK622 := zB BK622 hb; replace BK637 := zB BK637 hb; replace HB := zH HB hb; clear hz_; clear hb hbox hg; obtain ⟨Ao70, co70, eo70⟩ := Kd.V_slice HO640.out; subst eo70; obtain ⟨hnb71, hnc71⟩ := nn_ NB645_612; obtain ⟨hnb72, hnc72⟩ := nn_ NB645_615; obtain ⟨hnb73, hnc73⟩ := nn_ NB645_622; obtain ⟨hnb74, hnc74⟩ := nn_ NB645_637; obtain ⟨hcz75_0, hcz75_1, hfz75_0, hfz75_1⟩ := e2_ BK645; obtain ⟨Ao76, co76, eo76⟩ := Kd.V_slice HO643.out; subst eo76))
        (try simp only [Act.put, List.setIfInBounds_toArray, List.set_cons_zero, List.set_cons_succ])
        go_cut [92] (fun v92 wc => ∃ (kq : Nat) (x92_46 : Bool), v92 = .bool x92_46 ∧ Aside0 (armadalaw04_JournalCrash.j2 kq t625 x92_46 l0_0 l0_1 a0_2 a0_3 a0_4 a0_5 l0_6 a0_2 a0_3 t616 t617 t620 t638 t641 = some true) ∧ Aside0 (kq ≤ kj18) ∧ Aside0 (Kd.R k85 85 wc w.heap.size (fun _ => True) (.slice Ao56 t625.length co56) t625) ∧ Aside0 (Kd.R Kd.string 9 wc w.heap.size (fun _ => True) (.slice Ao30 t617.length co30) t617) ∧ Aside0 (Kd.V Kd.string 9 wc w.heap.size (fun k_ => some k_ ≠ ((.slice Ao56 t625.length co56) : Value).ownBlock ∧ some k_ ≠ ((.slice Ao30 t617.length co30) : Value).ownBlock ∧ k_ ≠ gb612 ∧ k_ ≠ gb615 ∧ k_ ≠ gb622 ∧ k_ ≠ gb637 ∧ k_ ≠ gb645) (.slice Ao59 t630.length co59) t630) ∧ Aside0 (Kd.V k29 29 wc w.heap.size (fun k_ => some k_ ≠ ((.slice Ao56 t625.length co56) : Value).ownBlock ∧ some k_ ≠ ((.slice Ao30 t617.length co30) : Value).ownBlock ∧ k_ ≠ gb612 ∧ k_ ≠ gb615 ∧ k_ ≠ gb622 ∧ k_ ≠ gb637 ∧ k_ ≠ gb645) (.slice Ao64 t633.length co64) t633) ∧ Aside0 (Kd.V Kd.string 9 wc w.heap.size (fun k_ => some k_ ≠ ((.slice Ao56 t625.length co56) : Value).ownBlock ∧ some k_ ≠ ((.slice Ao30 t617.length co30) : Value).ownBlock ∧ k_ ≠ gb612 ∧ k_ ≠ gb615 ∧ k_ ≠ gb622 ∧ k_ ≠ gb637 ∧ k_ ≠ gb645) (.slice Ao70 t638.length co70) t638) ∧ Aside0 (Kd.V k29 29 wc w.heap.size (fun k_ => some k_ ≠ ((.slice Ao56 t625.length co56) : Value).ownBlock ∧ some k_ ≠ ((.slice Ao30 t617.length co30) : Value).ownBlock ∧ k_ ≠ gb612 ∧ k_ ≠ gb615 ∧ k_ ≠ gb622 ∧ k_ ≠ gb637 ∧ k_ ≠ gb645) (.slice Ao76 t641.length co76) t641) ∧ Aside0 (wc.heap[gb612]? = some (.cells #[(.slice A0_0 l0_0.length c0_0), (.slice A0_1 l0_1.length c0_1), .int .i64 a0_2, .int .i64 a0_3, .string a0_4, .int .i64 a0_5, (.slice A0_6 l0_6.length c0_6)] 65 (0, 0))) ∧ Aside0 (wc.heap[gb615]? = some (.cells #[.int .i64 a0_2, .int .i64 a0_3] 40 (0, 0))) ∧ Aside0 (wc.heap[gb622]? = some (.cells #[.int .i64 t616, (.slice Ao30 t617.length co30), .int .i64 t620] 37 (0, 0))) ∧ Aside0 (wc.heap[gb637]? = some (.cells #[(.slice Ao59 t630.length co59), (.slice Ao64 t633.length co64)] 25 (0, 0))) ∧ Aside0 (wc.heap[gb645]? = some (.cells #[(.slice Ao70 t638.length co70), (.slice Ao76 t641.length co76)] 25 (0, 0))) ∧ Aside0 (Below w.heap.size w wc))
        case first =>
         have H := HC47.out
         clear HC47
         by_cases c77 : t636 = 0
         ·rw [if_pos c77] at H
          have c77b0 : (t636 == 0) = true := beq_iff_eq.mpr c77
          have c77b1 : (t636 != 0) = false := bne_eq_false_iff_eq.mpr c77
          clear c77
          (first | rw [c77b0] | (simp only [i64_w, i32_w]; rw [c77b0]) | skip)
          have H' := Aside0.mk H
          clear H
          go_wp2
          go_meet
          case rel => exact ⟨_, ((t644 != 0)), eY, H', ⟨by have := HJ1.out; have := HJ18.out; first | omega | exact Nat.le_refl _⟩, ⟨by (with_reducible repeat (first | apply Kd.R_alloc | apply Kd.R_drewN | apply Kd.R_drew)); exact Kd.R_mono (rG2 HO627.out BK645) (fun _ hk => trivial)⟩, ⟨by (with_reducible repeat (first | apply Kd.R_alloc | apply Kd.R_drewN | apply Kd.R_drew)); exact Kd.R_mono (rG2 HO_623001.out BK645) (fun _ hk => trivial)⟩, ⟨by (with_reducible repeat (first | apply Kd.V_alloc | apply Kd.V_drewN | apply Kd.V_drew)); exact Kd.V_mono (vG2 (g := gb645) HO632.out (fun _ hk => hk.2)) (fun _ hk => ⟨hk.1.1.2.1, ⟨hk.1.1.1, ⟨hk.1.1.2.2.1, ⟨hk.1.1.2.2.2.1, ⟨hk.1.1.2.2.2.2.1, ⟨hk.1.1.2.2.2.2.2, hk.1.2⟩⟩⟩⟩⟩⟩)⟩, ⟨by (with_reducible repeat (first | apply Kd.V_alloc | apply Kd.V_drewN | apply Kd.V_drew)); exact Kd.V_mono (vG2 (g := gb645) HO635.out (fun _ hk => hk.2)) (fun _ hk => ⟨hk.1.1.2.1, ⟨hk.1.1.1, ⟨hk.1.1.2.2.1, ⟨hk.1.1.2.2.2.1, ⟨hk.1.1.2.2.2.2.1, ⟨hk.1.1.2.2.2.2.2, hk.1.2⟩⟩⟩⟩⟩⟩)⟩, ⟨by (with_reducible repeat (first | apply Kd.V_alloc | apply Kd.V_drewN | apply Kd.V_drew)); exact Kd.V_mono (vG2 (g := gb645) HO640.out (fun _ hk => hk.2)) (fun _ hk => ⟨hk.1.1.2.1, ⟨hk.1.1.1, ⟨hk.1.1.2.2.1, ⟨hk.1.1.2.2.2.1, ⟨hk.1.1.2.2.2.2.1, ⟨hk.1.1.2.2.2.2.2, hk.1.2⟩⟩⟩⟩⟩⟩)⟩, ⟨by (with_reducible repeat (first | apply Kd.V_alloc | apply Kd.V_drewN | apply Kd.V_drew)); exact Kd.V_mono (vG2 (g := gb645) HO643.out (fun _ hk => hk.2)) (fun _ hk => ⟨hk.1.1.2.1, ⟨hk.1.1.1, ⟨hk.1.1.2.2.1, ⟨hk.1.1.2.2.2.1, ⟨hk.1.1.2.2.2.2.1, ⟨hk.1.1.2.2.2.2.2, hk.1.2⟩⟩⟩⟩⟩⟩)⟩, ⟨by (with_reducible repeat (first | apply xN_ | apply xD_ | apply xA_)); refine xR_ ?_ NB612_645.out _; refine xR_ ?_ NB612_645.out _; (with_reducible repeat (first | apply xN_ | apply xD_ | apply xA_)); exact BK612.out⟩, ⟨by (with_reducible repeat (first | apply xN_ | apply xD_ | apply xA_)); refine xR_ ?_ NB615_645.out _; refine xR_ ?_ NB615_645.out _; (with_reducible repeat (first | apply xN_ | apply xD_ | apply xA_)); exact BK615.out⟩, ⟨by (with_reducible repeat (first | apply xN_ | apply xD_ | apply xA_)); refine xR_ ?_ NB622_645.out _; refine xR_ ?_ NB622_645.out _; (with_reducible repeat (first | apply xN_ | apply xD_ | apply xA_)); exact BK622.out⟩, ⟨by (with_reducible repeat (first | apply xN_ | apply xD_ | apply xA_)); refine xR_ ?_ NB637_645.out _; refine xR_ ?_ NB637_645.out _; (with_reducible repeat (first | apply xN_ | apply xD_ | apply xA_)); exact BK637.out⟩, ⟨by (with_reducible repeat (first | apply xN_ | apply xD_ | apply xA_)); refine blk_put (cs := #[.slice Ao70 t638.length co70, .slice none 0 0]) ?_ 1 _ rfl; refine blk_put (cs := #[.slice none 0 0, .slice none 0 0]) ?_ 0 _ rfl; (with_reducible repeat (first | apply xN_ | apply xD_ | apply xA_)); exact BK645.out⟩, ⟨qH⟩⟩
         ·rw [if_neg c77] at H
          have c77b0 : (t636 == 0) = false := beq_eq_false_iff_ne.mpr c77
          have c77b1 : (t636 != 0) = true := bne_iff_ne.mpr c77
          (first | rw [c77b0] | (simp only [i64_w, i32_w]; rw [c77b0]) | skip)
          have H' := Aside0.mk H
          clear H
          go_wp2
          go_meet
          case rel => exact ⟨_, (true), eY, H', ⟨by have := HJ1.out; have := HJ18.out; first | omega | exact Nat.le_refl _⟩, ⟨by (with_reducible repeat (first | apply Kd.R_alloc | apply Kd.R_drewN | apply Kd.R_drew)); exact Kd.R_mono (rG2 HO627.out BK645) (fun _ hk => trivial)⟩, ⟨by (with_reducible repeat (first | apply Kd.R_alloc | apply Kd.R_drewN | apply Kd.R_drew)); exact Kd.R_mono (rG2 HO_623001.out BK645) (fun _ hk => trivial)⟩, ⟨by (with_reducible repeat (first | apply Kd.V_alloc | apply Kd.V_drewN | apply Kd.V_drew)); exact Kd.V_mono (vG2 (g := gb645) HO632.out (fun _ hk => hk.2)) (fun _ hk => ⟨hk.1.1.2.1, ⟨hk.1.1.1, ⟨hk.1.1.2.2.1, ⟨hk.1.1.2.2.2.1, ⟨hk.1.1.2.2.2.2.1, ⟨hk.1.1.2.2.2.2.2, hk.1.2⟩⟩⟩⟩⟩⟩)⟩, ⟨by (with_reducible repeat (first | apply Kd.V_alloc | apply Kd.V_drewN | apply Kd.V_drew)); exact Kd.V_mono (vG2 (g := gb645) HO635.out (fun _ hk => hk.2)) (fun _ hk => ⟨hk.1.1.2.1, ⟨hk.1.1.1, ⟨hk.1.1.2.2.1, ⟨hk.1.1.2.2.2.1, ⟨hk.1.1.2.2.2.2.1, ⟨hk.1.1.2.2.2.2.2, hk.1.2⟩⟩⟩⟩⟩⟩)⟩, ⟨by (with_reducible repeat (first | apply Kd.V_alloc | apply Kd.V_drewN | apply Kd.V_drew)); exact Kd.V_mono (vG2 (g := gb645) HO640.out (fun _ hk => hk.2)) (fun _ hk => ⟨hk.1.1.2.1, ⟨hk.1.1.1, ⟨hk.1.1.2.2.1, ⟨hk.1.1.2.2.2.1, ⟨hk.1.1.2.2.2.2.1, ⟨hk.1.1.2.2.2.2.2, hk.1.2⟩⟩⟩⟩⟩⟩)⟩, ⟨by (with_reducible repeat (first | apply Kd.V_alloc | apply Kd.V_drewN | apply Kd.V_drew)); exact Kd.V_mono (vG2 (g := gb645) HO643.out (fun _ hk => hk.2)) (fun _ hk => ⟨hk.1.1.2.1, ⟨hk.1.1.1, ⟨hk.1.1.2.2.1, ⟨hk.1.1.2.2.2.1, ⟨hk.1.1.2.2.2.2.1, ⟨hk.1.1.2.2.2.2.2, hk.1.2⟩⟩⟩⟩⟩⟩)⟩, ⟨by (with_reducible repeat (first | apply xN_ | apply xD_ | apply xA_)); refine xR_ ?_ NB612_645.out _; refine xR_ ?_ NB612_645.out _; (with_reducible repeat (first | apply xN_ | apply xD_ | apply xA_)); exact BK612.out⟩, ⟨by (with_reducible repeat (first | apply xN_ | apply xD_ | apply xA_)); refine xR_ ?_ NB615_645.out _; refine xR_ ?_ NB615_645.out _; (with_reducible repeat (first | apply xN_ | apply xD_ | apply xA_)); exact BK615.out⟩, ⟨by (with_reducible repeat (first | apply xN_ | apply xD_ | apply xA_)); refine xR_ ?_ NB622_645.out _; refine xR_ ?_ NB622_645.out _; (with_reducible repeat (first | apply xN_ | apply xD_ | apply xA_)); exact BK622.out⟩, ⟨by (with_reducible repeat (first | apply xN_ | apply xD_ | apply xA_)); refine xR_ ?_ NB637_645.out _; refine xR_ ?_ NB637_645.out _; (with_reducible repeat (first | apply xN_ | apply xD_ | apply xA_)); exact BK637.out⟩, ⟨by (with_reducible repeat (first | apply xN_ | apply xD_ | apply xA_)); refine blk_put (cs := #[.slice Ao70 t638.length co70, .slice none 0 0]) ?_ 1 _ rfl; refine blk_put (cs := #[.slice none 0 0, .slice none 0 0]) ?_ 0 _ rfl; (with_reducible repeat (first | apply xN_ | apply xD_ | apply xA_)); exact BK645.out⟩, ⟨qH⟩⟩
        case rest =>
         clear HC47
         (try clear p2); (try clear c40); (try clear c44b0); (try clear c44b1); (try clear hcz50_0); (try clear hcz50_1); (try clear hcz52_0); (try clear hcz52_1)
         (try clear hcz52_2); (try clear hcz53_0); (try clear hcz53_1); (try clear hcz53_2); (try clear hcz53_3); (try clear hcz53_4); (try clear hcz53_5); (try clear hcz53_6)
         (try clear hcz55_0); (try clear hcz55_1); (try clear hcz55_2); (try clear hcz55_3); (try clear hcz55_4); (try clear hcz55_5); (try clear hcz55_6); (try clear hcz63_0)
         (try clear hcz63_1); (try clear hcz66_0); (try clear hcz66_1); (try clear hcz67_0); (try clear hcz67_1); (try clear hcz67_2); (try clear hcz67_3); (try clear hcz67_4)
         (try clear hcz67_5); (try clear hcz67_6); (try clear hcz75_0); (try clear hcz75_1); (try clear hfz50_0); (try clear hfz50_1); (try clear hfz52_0); (try clear hfz52_1)
         (try clear hfz52_2); (try clear hfz53_0); (try clear hfz53_1); (try clear hfz53_2); (try clear hfz53_3); (try clear hfz53_4); (try clear hfz53_5); (try clear hfz53_6)
         (try clear hfz55_0); (try clear hfz55_1); (try clear hfz55_2); (try clear hfz55_3); (try clear hfz55_4); (try clear hfz55_5); (try clear hfz55_6); (try clear hfz63_0)
         (try clear hfz63_1); (try clear hfz66_0); (try clear hfz66_1); (try clear hfz67_0); (try clear hfz67_1); (try clear hfz67_2); (try clear hfz67_3); (try clear hfz67_4)
         (try clear hfz67_5); (try clear hfz67_6); (try clear hfz75_0); (try clear hfz75_1); (try clear p2)
         obtain ⟨kq, x92_46, rfl, HA, HJ46, HO_6, HO_623001, HO_638000, HO_638001, HO_646000, HO_646001, BK612, BK615, BK622, BK637, BK645, HB⟩ := hcut
         cases kq with
         | zero => exact absurd HA.out (by simp [armadalaw04_JournalCrash.j2])
         | succ kj46 =>
          have H := HA.out
          clear HA
          simp only [armadalaw04_JournalCrash.j2] at H
          by_cases c78 : x92_46 = true
          ·subst c78
           rw [if_pos rfl] at H
           exact absurd H (by simp)
          ·replace c78 := Bool.eq_false_iff.mpr c78
           subst c78
           rw [if_neg nF_] at H
           replace H := Option.bind_eq_some_iff.mp H
           obtain ⟨⟨t646, t647, t650, t651⟩, A790, H⟩ := H
           try dsimp only at H
           have A79 := Aside0.mk A790
           clear A790
           have HC80 := Aside0.mk H
           clear H
           obtain ⟨hnb81, hnc81⟩ := nn_ NB645_612
           obtain ⟨hnb82, hnc82⟩ := nn_ NB645_615
           obtain ⟨hnb83, hnc83⟩ := nn_ NB645_622
           obtain ⟨hnb84, hnc84⟩ := nn_ NB645_637
           obtain ⟨hcz85_0, hcz85_1, hfz85_0, hfz85_1⟩ := e2_ BK645
           obtain ⟨hnb86, hnc86⟩ := nn_ NB615_612
           obtain ⟨hnb87, hnc87⟩ := nn_ NB615_622
           obtain ⟨hnb88, hnc88⟩ := nn_ NB615_637
           obtain ⟨hcz89_0, hcz89_1, hfz89_0, hfz89_1⟩ := e2_ BK615
           go_upto_region 15 with (first | ((with_reducible refine gate_callee (f := 11) rfl ?_); refine gL (some 96) Try.func11 #[.agg #[.slice Ao70 t638.length co70, .slice Ao76 t641.length co76], .agg #[.int .i64 a0_2, .int .i64 a0_3]] ?_; (with_reducible refine (journal_Open.calls kj46 _ _ t638 _ _ t641 a0_2 a0_3 t646 t647 t650 t651 _ ?side1 ?side2 ?side3 ?side4 A79.out).mono ?_); (case side1 => exact qK (Kd.V_reads' HO_646000.out).2.2); (case side2 => exact (Kd.V_reads' HO_646000.out).2.1); (case side3 => exact qK (Kd.V_reads' HO_646001.out).2.2); (case side4 => exact (Kd.V_reads' HO_646001.out).2.1); rintro e w90 ⟨v648, rfl, ho0, hb⟩; refine ⟨_, rfl, ?_⟩; replace HO_6 := Aside0.mk (Kd.R_below (qR HO_6.out) hb); replace HO_638000 := Aside0.mk (Kd.V_elder' (qV HO_638000.out) (Kd.R_base ho0) hb); replace HO_638001 := Aside0.mk (Kd.V_elder' (qV HO_638001.out) (Kd.R_base ho0) hb); replace HO_646000 := Aside0.mk (Kd.V_elder' (qV HO_646000.out) (Kd.R_base ho0) hb); replace HO_646001 := Aside0.mk (Kd.V_elder' (qV HO_646001.out) (Kd.R_base ho0) hb); have HO649 := Aside0.mk (Kd.R_lower (Kd.R_new' ho0 (Kd.R_lt (qR HO_623001.out))) (below_size qH)); replace BK612 := wB BK612 hb; replace BK615 := wB BK615 hb; replace BK622 := wB BK622 hb; replace BK637 := wB BK637 hb; replace BK645 := wB BK645 hb; replace HO_623001 := Aside0.mk (Kd.R_elder' (qR HO_623001.out) (Kd.R_base ho0) hb); replace HB := wH hb; (try clear hb); (try clear ho0)) | ((with_reducible refine gate_dst (N := 12) rfl ?_); (try (refine gate_guard (by rfl) ?_; dsimp only)); refine bE (N := 12) (cs := #[.int .i64 0, .slice none 0 0, .int .i64 0]) (t := 37) ?_; intro gb652 hg w91 hbox hb; have hz_ := zqA HB hb; replace hb := below_step hz_ hb; replace HO_6 := zR HO_6 hb; replace HO_623001 := zR HO_623001 hb; replace HO_638000 := zE HO_638000 hz_ hg hb; replace HO_638001 := zE HO_638001 hz_ hg hb; replace HO_646000 := zE HO_646000 hz_ hg hb; replace HO_646001 := zE HO_646001 hz_ hg hb; replace HO649 := zR HO649 hb; have BK652 := Aside0.mk hbox; have GE652 := zG HB hz_ hg; have NB612_652 := zN BK612 hz_ hg; have NB652_612 := zM BK612 hz_ hg; have NB615_652 := zN BK615 hz_ hg; have NB652_615 := zM BK615 hz_ hg; have NB622_652 := zN BK622 hz_ hg; have NB652_622 := zM BK622 hz_ hg; have NB637_652 := zN BK637 hz_ hg; have NB652_637 := zM BK637 hz_ hg; have NB645_652 := zN BK645 hz_ hg; have NB652_645 := zM BK645 hz_ hg; replace BK612 := zB BK612 hb; replace BK615 := zB BK615 hb; replace BK622 := zB BK622 hb; replace BK637 := zB BK637 hb; replace BK645 := zB BK645 hb; replace HB := zH HB hb; clear hz_; clear hb hbox hg; obtain ⟨hnb92, hnc92⟩ := nn_ NB652_612; obtain ⟨hnb93, hnc93⟩ := nn_ NB652_615; obtain ⟨hnb94, hnc94⟩ := nn_ NB652_622; obtain ⟨hnb95, hnc95⟩ := nn_ NB652_637; obtain ⟨hnb96, hnc96⟩ := nn_ NB652_645; obtain ⟨hcz97_0, hcz97_1, hcz97_2, hfz97_0, hfz97_1, hfz97_2⟩ := e3_ BK652; obtain ⟨Ao98, co98, eo98⟩ := Kd.R_slice HO649.out; subst eo98))
           (try simp only [Act.put, List.setIfInBounds_toArray, List.set_cons_zero, List.set_cons_succ])
           go_cut [114] (fun v114 wc => ∃ (kq : Nat) (x114_79 : Bool), v114 = .bool x114_79 ∧ Aside0 (armadalaw04_JournalCrash.j3 kq t625 x114_79 l0_0 l0_1 a0_2 a0_3 a0_4 a0_5 l0_6 t616 t617 t620 t646 t647 t650 = some true) ∧ Aside0 (kq ≤ kj46) ∧ Aside0 (Kd.R k85 85 wc w.heap.size (fun _ => True) (.slice Ao56 t625.length co56) t625) ∧ Aside0 (Kd.R Kd.string 9 wc w.heap.size (fun k_ => some k_ ≠ ((.slice Ao98 t647.length co98) : Value).ownBlock) (.slice Ao30 t617.length co30) t617) ∧ Aside0 (Kd.V Kd.string 9 wc w.heap.size (fun k_ => some k_ ≠ ((.slice Ao56 t625.length co56) : Value).ownBlock ∧ some k_ ≠ ((.slice Ao30 t617.length co30) : Value).ownBlock ∧ some k_ ≠ ((.slice Ao98 t647.length co98) : Value).ownBlock ∧ k_ ≠ gb612 ∧ k_ ≠ gb615 ∧ k_ ≠ gb622 ∧ k_ ≠ gb637 ∧ k_ ≠ gb645 ∧ k_ ≠ gb652) (.slice Ao59 t630.length co59) t630) ∧ Aside0 (Kd.V k29 29 wc w.heap.size (fun k_ => some k_ ≠ ((.slice Ao56 t625.length co56) : Value).ownBlock ∧ some k_ ≠ ((.slice Ao30 t617.length co30) : Value).ownBlock ∧ some k_ ≠ ((.slice Ao98 t647.length co98) : Value).ownBlock ∧ k_ ≠ gb612 ∧ k_ ≠ gb615 ∧ k_ ≠ gb622 ∧ k_ ≠ gb637 ∧ k_ ≠ gb645 ∧ k_ ≠ gb652) (.slice Ao64 t633.length co64) t633) ∧ Aside0 (Kd.V Kd.string 9 wc w.heap.size (fun k_ => some k_ ≠ ((.slice Ao56 t625.length co56) : Value).ownBlock ∧ some k_ ≠ ((.slice Ao30 t617.length co30) : Value).ownBlock ∧ some k_ ≠ ((.slice Ao98 t647.length co98) : Value).ownBlock ∧ k_ ≠ gb612 ∧ k_ ≠ gb615 ∧ k_ ≠ gb622 ∧ k_ ≠ gb637 ∧ k_ ≠ gb645 ∧ k_ ≠ gb652) (.slice Ao70 t638.length co70) t638) ∧ Aside0 (Kd.V k29 29 wc w.heap.size (fun k_ => some k_ ≠ ((.slice Ao56 t625.length co56) : Value).ownBlock ∧ some k_ ≠ ((.slice Ao30 t617.length co30) : Value).ownBlock ∧ some k_ ≠ ((.slice Ao98 t647.length co98) : Value).ownBlock ∧ k_ ≠ gb612 ∧ k_ ≠ gb615 ∧ k_ ≠ gb622 ∧ k_ ≠ gb637 ∧ k_ ≠ gb645 ∧ k_ ≠ gb652) (.slice Ao76 t641.length co76) t641) ∧ Aside0 (Kd.R Kd.string 9 wc w.heap.size (fun k_ => some k_ ≠ ((.slice Ao30 t617.length co30) : Value).ownBlock) (.slice Ao98 t647.length co98) t647) ∧ Aside0 (wc.heap[gb612]? = some (.cells #[(.slice A0_0 l0_0.length c0_0), (.slice A0_1 l0_1.length c0_1), .int .i64 a0_2, .int .i64 a0_3, .string a0_4, .int .i64 a0_5, (.slice A0_6 l0_6.length c0_6)] 65 (0, 0))) ∧ Aside0 (wc.heap[gb615]? = some (.cells #[.int .i64 a0_2, .int .i64 a0_3] 40 (0, 0))) ∧ Aside0 (wc.heap[gb622]? = some (.cells #[.int .i64 t616, (.slice Ao30 t617.length co30), .int .i64 t620] 37 (0, 0))) ∧ Aside0 (wc.heap[gb637]? = some (.cells #[(.slice Ao59 t630.length co59), (.slice Ao64 t633.length co64)] 25 (0, 0))) ∧ Aside0 (wc.heap[gb645]? = some (.cells #[(.slice Ao70 t638.length co70), (.slice Ao76 t641.length co76)] 25 (0, 0))) ∧ Aside0 (wc.heap[gb652]? = some (.cells #[.int .i64 t646, (.slice Ao98 t647.length co98), .int .i64 t650] 37 (0, 0))) ∧ Aside0 (Below w.heap.size w wc))
           case first =>
            have H := HC80.out
            clear HC80
            by_cases c99 : t651 = 0
            ·rw [if_pos c99] at H
             have c99b0 : (t651 == 0) = true := beq_iff_eq.mpr c99
             have c99b1 : (t651 != 0) = false := bne_eq_false_iff_eq.mpr c99
             clear c99
             (first | rw [c99b0] | (simp only [i64_w, i32_w]; rw [c99b0]) | skip)
             by_cases c100 : t646 = t616
             ·rw [if_pos c100] at H
              have c100b0 : (t646 == t616) = true := beq_iff_eq.mpr c100
              have c100b1 : (t646 != t616) = false := bne_eq_false_iff_eq.mpr c100
              clear c100
              replace H := Option.bind_eq_some_iff.mp H
              obtain ⟨t653, A1010, H⟩ := H
              try dsimp only at H
              have A101 := Aside0.mk A1010
              clear A1010
              have H' := Aside0.mk H
              clear H
              obtain ⟨hnb102, hnc102⟩ := nn_ NB652_612
              obtain ⟨hnb103, hnc103⟩ := nn_ NB652_615
              obtain ⟨hnb104, hnc104⟩ := nn_ NB652_622
              obtain ⟨hnb105, hnc105⟩ := nn_ NB652_637
              obtain ⟨hnb106, hnc106⟩ := nn_ NB652_645
              obtain ⟨hcz107_0, hcz107_1, hcz107_2, hfz107_0, hfz107_1, hfz107_2⟩ := e3_ BK652
              obtain ⟨hnb108, hnc108⟩ := nn_ NB622_612
              obtain ⟨hnb109, hnc109⟩ := nn_ NB622_615
              obtain ⟨hnb110, hnc110⟩ := nn_ NB622_637
              obtain ⟨hnb111, hnc111⟩ := nn_ NB622_645
              obtain ⟨hcz112_0, hcz112_1, hcz112_2, hfz112_0, hfz112_1, hfz112_2⟩ := e3_ BK622
              obtain ⟨hnb113, hnc113⟩ := nn_ NB645_612
              obtain ⟨hnb114, hnc114⟩ := nn_ NB645_615
              obtain ⟨hnb115, hnc115⟩ := nn_ NB645_637
              obtain ⟨hcz116_0, hcz116_1, hfz116_0, hfz116_1⟩ := e2_ BK645
              obtain ⟨hnb117, hnc117⟩ := nn_ NB615_612
              obtain ⟨hnb118, hnc118⟩ := nn_ NB615_637
              obtain ⟨hcz119_0, hcz119_1, hfz119_0, hfz119_1⟩ := e2_ BK615
              go_wp2_with (first | (go_at_call 14; (with_reducible refine (journal_Clean.calls kj46 _ _ t638 _ _ t641 a0_2 a0_3 t646 _ _ t647 t650 t653 _ ?side1 ?side2 ?side3 ?side4 ?side5 ?side6 A101.out).mono ?_); (case side1 => refine (Kd.V_reads' (e := 9) (base := w.heap.size) (ok := fun k_ => (((some k_ ≠ (.slice Ao56 t625.length co56 : Value).ownBlock ∧ (some k_ ≠ (.slice Ao30 t617.length co30 : Value).ownBlock ∧ (k_ ≠ gb612 ∧ (k_ ≠ gb615 ∧ (k_ ≠ gb622 ∧ (k_ ≠ gb637 ∧ k_ ≠ gb645)))))) ∧ some k_ ≠ (.slice Ao98 t647.length co98 : Value).ownBlock) ∧ k_ ≠ gb652)) (n := t638.length) (c := co70) ?_).2.2; exact (qV (vF3 HO_646000.out (fun _ hk => hk.2)))); (case side2 => exact (Kd.V_reads' HO_646000.out).2.1); (case side3 => refine (Kd.V_reads' (e := 29) (base := w.heap.size) (ok := fun k_ => (((some k_ ≠ (.slice Ao56 t625.length co56 : Value).ownBlock ∧ (some k_ ≠ (.slice Ao30 t617.length co30 : Value).ownBlock ∧ (k_ ≠ gb612 ∧ (k_ ≠ gb615 ∧ (k_ ≠ gb622 ∧ (k_ ≠ gb637 ∧ k_ ≠ gb645)))))) ∧ some k_ ≠ (.slice Ao98 t647.length co98 : Value).ownBlock) ∧ k_ ≠ gb652)) (n := t641.length) (c := co76) ?_).2.2; exact (qV (vF3 HO_646001.out (fun _ hk => hk.2)))); (case side4 => exact (Kd.V_reads' HO_646001.out).2.1); (case side5 => refine (Kd.R_reads' (e := 9) (base := w.heap.size) (ok := fun k_ => (True ∧ some k_ ≠ (.slice Ao30 t617.length co30 : Value).ownBlock)) (n := t647.length) (c := co98) ?_).2.2; exact (qR (rF3 HO649.out BK652))); (case side6 => exact (Kd.R_reads' HO649.out).2.1); rintro e w120 ⟨rfl, hb⟩; replace HO_6 := Aside0.mk (Kd.R_below (qR (rF3 HO_6.out BK652)) hb); replace HO_623001 := Aside0.mk (Kd.R_below (qR (rF3 HO_623001.out BK652)) hb); replace HO_638000 := Aside0.mk (Kd.V_below (qV (vF3 HO_638000.out (fun _ hk => hk.2))) hb); replace HO_638001 := Aside0.mk (Kd.V_below (qV (vF3 HO_638001.out (fun _ hk => hk.2))) hb); replace HO_646000 := Aside0.mk (Kd.V_below (qV (vF3 HO_646000.out (fun _ hk => hk.2))) hb); replace HO_646001 := Aside0.mk (Kd.V_below (qV (vF3 HO_646001.out (fun _ hk => hk.2))) hb); replace HO649 := Aside0.mk (Kd.R_below (qR (rF3 HO649.out BK652)) hb); replace BK612 := wF BK612 hb; replace BK615 := wF BK615 hb; replace BK622 := wF BK622 hb; replace BK637 := wF BK637 hb; replace BK645 := wF BK645 hb; replace HB := wH hb; replace BK652 := wP3 BK652 hb; (try clear hb)))
              go_meet
              case rel => exact ⟨_, (!t653), eY, H', ⟨by have := HJ1.out; have := HJ18.out; have := HJ46.out; first | omega | exact Nat.le_refl _⟩, ⟨qR HO_6.out⟩, ⟨by (with_reducible repeat (first | apply Kd.R_alloc | apply Kd.R_drewN | apply Kd.R_drew)); exact Kd.R_mono HO_623001.out (fun _ hk => hk.2)⟩, ⟨by (with_reducible repeat (first | apply Kd.V_alloc | apply Kd.V_drewN | apply Kd.V_drew)); exact Kd.V_mono HO_638000.out (fun _ hk => ⟨hk.1.1.1, ⟨hk.1.1.2.1, ⟨hk.1.2, ⟨hk.1.1.2.2.1, ⟨hk.1.1.2.2.2.1, ⟨hk.1.1.2.2.2.2.1, ⟨hk.1.1.2.2.2.2.2.1, ⟨hk.1.1.2.2.2.2.2.2, hk.2⟩⟩⟩⟩⟩⟩⟩⟩)⟩, ⟨by (with_reducible repeat (first | apply Kd.V_alloc | apply Kd.V_drewN | apply Kd.V_drew)); exact Kd.V_mono HO_638001.out (fun _ hk => ⟨hk.1.1.1, ⟨hk.1.1.2.1, ⟨hk.1.2, ⟨hk.1.1.2.2.1, ⟨hk.1.1.2.2.2.1, ⟨hk.1.1.2.2.2.2.1, ⟨hk.1.1.2.2.2.2.2.1, ⟨hk.1.1.2.2.2.2.2.2, hk.2⟩⟩⟩⟩⟩⟩⟩⟩)⟩, ⟨by (with_reducible repeat (first | apply Kd.V_alloc | apply Kd.V_drewN | apply Kd.V_drew)); exact Kd.V_mono HO_646000.out (fun _ hk => ⟨hk.1.1.1, ⟨hk.1.1.2.1, ⟨hk.1.2, ⟨hk.1.1.2.2.1, ⟨hk.1.1.2.2.2.1, ⟨hk.1.1.2.2.2.2.1, ⟨hk.1.1.2.2.2.2.2.1, ⟨hk.1.1.2.2.2.2.2.2, hk.2⟩⟩⟩⟩⟩⟩⟩⟩)⟩, ⟨by (with_reducible repeat (first | apply Kd.V_alloc | apply Kd.V_drewN | apply Kd.V_drew)); exact Kd.V_mono HO_646001.out (fun _ hk => ⟨hk.1.1.1, ⟨hk.1.1.2.1, ⟨hk.1.2, ⟨hk.1.1.2.2.1, ⟨hk.1.1.2.2.2.1, ⟨hk.1.1.2.2.2.2.1, ⟨hk.1.1.2.2.2.2.2.1, ⟨hk.1.1.2.2.2.2.2.2, hk.2⟩⟩⟩⟩⟩⟩⟩⟩)⟩, ⟨by (with_reducible repeat (first | apply Kd.R_alloc | apply Kd.R_drewN | apply Kd.R_drew)); exact Kd.R_mono HO649.out (fun _ hk => hk.2)⟩, ⟨qB BK612⟩, ⟨qB BK615⟩, ⟨qB BK622⟩, ⟨qB BK637⟩, ⟨qB BK645⟩, ⟨qB BK652⟩, ⟨qH⟩⟩
             ·rw [if_neg c100] at H
              have c100b0 : (t646 == t616) = false := beq_eq_false_iff_ne.mpr c100
              have c100b1 : (t646 != t616) = true := bne_iff_ne.mpr c100
              have H' := Aside0.mk H
              clear H
              obtain ⟨hnb121, hnc121⟩ := nn_ NB652_612
              obtain ⟨hnb122, hnc122⟩ := nn_ NB652_615
              obtain ⟨hnb123, hnc123⟩ := nn_ NB652_622
              obtain ⟨hnb124, hnc124⟩ := nn_ NB652_637
              obtain ⟨hnb125, hnc125⟩ := nn_ NB652_645
              obtain ⟨hcz126_0, hcz126_1, hcz126_2, hfz126_0, hfz126_1, hfz126_2⟩ := e3_ BK652
              obtain ⟨hnb127, hnc127⟩ := nn_ NB622_612
              obtain ⟨hnb128, hnc128⟩ := nn_ NB622_615
              obtain ⟨hnb129, hnc129⟩ := nn_ NB622_637
              obtain ⟨hnb130, hnc130⟩ := nn_ NB622_645
              obtain ⟨hcz131_0, hcz131_1, hcz131_2, hfz131_0, hfz131_1, hfz131_2⟩ := e3_ BK622
              go_wp2
              go_meet
              case rel => exact ⟨_, (true), eY, H', ⟨by have := HJ1.out; have := HJ18.out; have := HJ46.out; first | omega | exact Nat.le_refl _⟩, ⟨by (with_reducible repeat (first | apply Kd.R_alloc | apply Kd.R_drewN | apply Kd.R_drew)); exact Kd.R_mono (rG3 HO_6.out BK652) (fun _ hk => trivial)⟩, ⟨by (with_reducible repeat (first | apply Kd.R_alloc | apply Kd.R_drewN | apply Kd.R_drew)); exact Kd.R_mono (rG3 HO_623001.out BK652) (fun _ hk => hk.1.2)⟩, ⟨by (with_reducible repeat (first | apply Kd.V_alloc | apply Kd.V_drewN | apply Kd.V_drew)); exact Kd.V_mono (vG3 (g := gb652) HO_638000.out (fun _ hk => hk.2)) (fun _ hk => ⟨hk.1.1.1.1, ⟨hk.1.1.1.2.1, ⟨hk.1.1.2, ⟨hk.1.1.1.2.2.1, ⟨hk.1.1.1.2.2.2.1, ⟨hk.1.1.1.2.2.2.2.1, ⟨hk.1.1.1.2.2.2.2.2.1, ⟨hk.1.1.1.2.2.2.2.2.2, hk.1.2⟩⟩⟩⟩⟩⟩⟩⟩)⟩, ⟨by (with_reducible repeat (first | apply Kd.V_alloc | apply Kd.V_drewN | apply Kd.V_drew)); exact Kd.V_mono (vG3 (g := gb652) HO_638001.out (fun _ hk => hk.2)) (fun _ hk => ⟨hk.1.1.1.1, ⟨hk.1.1.1.2.1, ⟨hk.1.1.2, ⟨hk.1.1.1.2.2.1, ⟨hk.1.1.1.2.2.2.1, ⟨hk.1.1.1.2.2.2.2.1, ⟨hk.1.1.1.2.2.2.2.2.1, ⟨hk.1.1.1.2.2.2.2.2.2, hk.1.2⟩⟩⟩⟩⟩⟩⟩⟩)⟩, ⟨by (with_reducible repeat (first | apply Kd.V_alloc | apply Kd.V_drewN | apply Kd.V_drew)); exact Kd.V_mono (vG3 (g := gb652) HO_646000.out (fun _ hk => hk.2)) (fun _ hk => ⟨hk.1.1.1.1, ⟨hk.1.1.1.2.1, ⟨hk.1.1.2, ⟨hk.1.1.1.2.2.1, ⟨hk.1.1.1.2.2.2.1, ⟨hk.1.1.1.2.2.2.2.1, ⟨hk.1.1.1.2.2.2.2.2.1, ⟨hk.1.1.1.2.2.2.2.2.2, hk.1.2⟩⟩⟩⟩⟩⟩⟩⟩)⟩, ⟨by (with_reducible repeat (first | apply Kd.V_alloc | apply Kd.V_drewN | apply Kd.V_drew)); exact Kd.V_mono (vG3 (g := gb652) HO_646001.out (fun _ hk => hk.2)) (fun _ hk => ⟨hk.1.1.1.1, ⟨hk.1.1.1.2.1, ⟨hk.1.1.2, ⟨hk.1.1.1.2.2.1, ⟨hk.1.1.1.2.2.2.1, ⟨hk.1.1.1.2.2.2.2.1, ⟨hk.1.1.1.2.2.2.2.2.1, ⟨hk.1.1.1.2.2.2.2.2.2, hk.1.2⟩⟩⟩⟩⟩⟩⟩⟩)⟩, ⟨by (with_reducible repeat (first | apply Kd.R_alloc | apply Kd.R_drewN | apply Kd.R_drew)); exact Kd.R_mono (rG3 HO649.out BK652) (fun _ hk => hk.1.2)⟩, ⟨by (with_reducible repeat (first | apply xN_ | apply xD_ | apply xA_)); refine xR_ ?_ NB612_652.out _; refine xR_ ?_ NB612_652.out _; refine xR_ ?_ NB612_652.out _; (with_reducible repeat (first | apply xN_ | apply xD_ | apply xA_)); exact BK612.out⟩, ⟨by (with_reducible repeat (first | apply xN_ | apply xD_ | apply xA_)); refine xR_ ?_ NB615_652.out _; refine xR_ ?_ NB615_652.out _; refine xR_ ?_ NB615_652.out _; (with_reducible repeat (first | apply xN_ | apply xD_ | apply xA_)); exact BK615.out⟩, ⟨by (with_reducible repeat (first | apply xN_ | apply xD_ | apply xA_)); refine xR_ ?_ NB622_652.out _; refine xR_ ?_ NB622_652.out _; refine xR_ ?_ NB622_652.out _; (with_reducible repeat (first | apply xN_ | apply xD_ | apply xA_)); exact BK622.out⟩, ⟨by (with_reducible repeat (first | apply xN_ | apply xD_ | apply xA_)); refine xR_ ?_ NB637_652.out _; refine xR_ ?_ NB637_652.out _; refine xR_ ?_ NB637_652.out _; (with_reducible repeat (first | apply xN_ | apply xD_ | apply xA_)); exact BK637.out⟩, ⟨by (with_reducible repeat (first | apply xN_ | apply xD_ | apply xA_)); refine xR_ ?_ NB645_652.out _; refine xR_ ?_ NB645_652.out _; refine xR_ ?_ NB645_652.out _; (with_reducible repeat (first | apply xN_ | apply xD_ | apply xA_)); exact BK645.out⟩, ⟨by (with_reducible repeat (first | apply xN_ | apply xD_ | apply xA_)); refine blk_put (cs := #[.int .i64 t646, .slice Ao98 t647.length co98, .int .i64 0]) ?_ 2 _ rfl; refine blk_put (cs := #[.int .i64 t646, .slice none 0 0, .int .i64 0]) ?_ 1 _ rfl; refine blk_put (cs := #[.int .i64 0, .slice none 0 0, .int .i64 0]) ?_ 0 _ rfl; (with_reducible repeat (first | apply xN_ | apply xD_ | apply xA_)); exact BK652.out⟩, ⟨qH⟩⟩
            ·rw [if_neg c99] at H
             have c99b0 : (t651 == 0) = false := beq_eq_false_iff_ne.mpr c99
             have c99b1 : (t651 != 0) = true := bne_iff_ne.mpr c99
             (first | rw [c99b0] | (simp only [i64_w, i32_w]; rw [c99b0]) | skip)
             have H' := Aside0.mk H
             clear H
             go_wp2
             go_meet
             case rel => exact ⟨_, (true), eY, H', ⟨by have := HJ1.out; have := HJ18.out; have := HJ46.out; first | omega | exact Nat.le_refl _⟩, ⟨by (with_reducible repeat (first | apply Kd.R_alloc | apply Kd.R_drewN | apply Kd.R_drew)); exact Kd.R_mono (rG3 HO_6.out BK652) (fun _ hk => trivial)⟩, ⟨by (with_reducible repeat (first | apply Kd.R_alloc | apply Kd.R_drewN | apply Kd.R_drew)); exact Kd.R_mono (rG3 HO_623001.out BK652) (fun _ hk => hk.1.2)⟩, ⟨by (with_reducible repeat (first | apply Kd.V_alloc | apply Kd.V_drewN | apply Kd.V_drew)); exact Kd.V_mono (vG3 (g := gb652) HO_638000.out (fun _ hk => hk.2)) (fun _ hk => ⟨hk.1.1.1.1, ⟨hk.1.1.1.2.1, ⟨hk.1.1.2, ⟨hk.1.1.1.2.2.1, ⟨hk.1.1.1.2.2.2.1, ⟨hk.1.1.1.2.2.2.2.1, ⟨hk.1.1.1.2.2.2.2.2.1, ⟨hk.1.1.1.2.2.2.2.2.2, hk.1.2⟩⟩⟩⟩⟩⟩⟩⟩)⟩, ⟨by (with_reducible repeat (first | apply Kd.V_alloc | apply Kd.V_drewN | apply Kd.V_drew)); exact Kd.V_mono (vG3 (g := gb652) HO_638001.out (fun _ hk => hk.2)) (fun _ hk => ⟨hk.1.1.1.1, ⟨hk.1.1.1.2.1, ⟨hk.1.1.2, ⟨hk.1.1.1.2.2.1, ⟨hk.1.1.1.2.2.2.1, ⟨hk.1.1.1.2.2.2.2.1, ⟨hk.1.1.1.2.2.2.2.2.1, ⟨hk.1.1.1.2.2.2.2.2.2, hk.1.2⟩⟩⟩⟩⟩⟩⟩⟩)⟩, ⟨by (with_reducible repeat (first | apply Kd.V_alloc | apply Kd.V_drewN | apply Kd.V_drew)); exact Kd.V_mono (vG3 (g := gb652) HO_646000.out (fun _ hk => hk.2)) (fun _ hk => ⟨hk.1.1.1.1, ⟨hk.1.1.1.2.1, ⟨hk.1.1.2, ⟨hk.1.1.1.2.2.1, ⟨hk.1.1.1.2.2.2.1, ⟨hk.1.1.1.2.2.2.2.1, ⟨hk.1.1.1.2.2.2.2.2.1, ⟨hk.1.1.1.2.2.2.2.2.2, hk.1.2⟩⟩⟩⟩⟩⟩⟩⟩)⟩, ⟨by (with_reducible repeat (first | apply Kd.V_alloc | apply Kd.V_drewN | apply Kd.V_drew)); exact Kd.V_mono (vG3 (g := gb652) HO_646001.out (fun _ hk => hk.2)) (fun _ hk => ⟨hk.1.1.1.1, ⟨hk.1.1.1.2.1, ⟨hk.1.1.2, ⟨hk.1.1.1.2.2.1, ⟨hk.1.1.1.2.2.2.1, ⟨hk.1.1.1.2.2.2.2.1, ⟨hk.1.1.1.2.2.2.2.2.1, ⟨hk.1.1.1.2.2.2.2.2.2, hk.1.2⟩⟩⟩⟩⟩⟩⟩⟩)⟩, ⟨by (with_reducible repeat (first | apply Kd.R_alloc | apply Kd.R_drewN | apply Kd.R_drew)); exact Kd.R_mono (rG3 HO649.out BK652) (fun _ hk => hk.1.2)⟩, ⟨by (with_reducible repeat (first | apply xN_ | apply xD_ | apply xA_)); refine xR_ ?_ NB612_652.out _; refine xR_ ?_ NB612_652.out _; refine xR_ ?_ NB612_652.out _; (with_reducible repeat (first | apply xN_ | apply xD_ | apply xA_)); exact BK612.out⟩, ⟨by (with_reducible repeat (first | apply xN_ | apply xD_ | apply xA_)); refine xR_ ?_ NB615_652.out _; refine xR_ ?_ NB615_652.out _; refine xR_ ?_ NB615_652.out _; (with_reducible repeat (first | apply xN_ | apply xD_ | apply xA_)); exact BK615.out⟩, ⟨by (with_reducible repeat (first | apply xN_ | apply xD_ | apply xA_)); refine xR_ ?_ NB622_652.out _; refine xR_ ?_ NB622_652.out _; refine xR_ ?_ NB622_652.out _; (with_reducible repeat (first | apply xN_ | apply xD_ | apply xA_)); exact BK622.out⟩, ⟨by (with_reducible repeat (first | apply xN_ | apply xD_ | apply xA_)); refine xR_ ?_ NB637_652.out _; refine xR_ ?_ NB637_652.out _; refine xR_ ?_ NB637_652.out _; (with_reducible repeat (first | apply xN_ | apply xD_ | apply xA_)); exact BK637.out⟩, ⟨by (with_reducible repeat (first | apply xN_ | apply xD_ | apply xA_)); refine xR_ ?_ NB645_652.out _; refine xR_ ?_ NB645_652.out _; refine xR_ ?_ NB645_652.out _; (with_reducible repeat (first | apply xN_ | apply xD_ | apply xA_)); exact BK645.out⟩, ⟨by (with_reducible repeat (first | apply xN_ | apply xD_ | apply xA_)); refine blk_put (cs := #[.int .i64 t646, .slice Ao98 t647.length co98, .int .i64 0]) ?_ 2 _ rfl; refine blk_put (cs := #[.int .i64 t646, .slice none 0 0, .int .i64 0]) ?_ 1 _ rfl; refine blk_put (cs := #[.int .i64 0, .slice none 0 0, .int .i64 0]) ?_ 0 _ rfl; (with_reducible repeat (first | apply xN_ | apply xD_ | apply xA_)); exact BK652.out⟩, ⟨qH⟩⟩
           case rest =>
            clear HC80
            (try clear p2); (try clear c78); (try clear hcz85_0); (try clear hcz85_1); (try clear hcz89_0); (try clear hcz89_1); (try clear hcz97_0); (try clear hcz97_1)
            (try clear hcz97_2); (try clear hfz85_0); (try clear hfz85_1); (try clear hfz89_0); (try clear hfz89_1); (try clear hfz97_0); (try clear hfz97_1); (try clear hfz97_2)
            (try clear p2)
            obtain ⟨kq, x114_79, rfl, HA, HJ79, HO_6, HO_623001, HO_638000, HO_638001, HO_646000, HO_646001, HO_653001, BK612, BK615, BK622, BK637, BK645, BK652, HB⟩ := hcut
            cases kq with
            | zero => exact absurd HA.out (by simp [armadalaw04_JournalCrash.j3])
            | succ kj79 =>
             have H := HA.out
             clear HA
             simp only [armadalaw04_JournalCrash.j3] at H
             by_cases c132 : x114_79 = true
             ·subst c132
              rw [if_pos rfl] at H
              exact absurd H (by simp)
             ·replace c132 := Bool.eq_false_iff.mpr c132
              subst c132
              rw [if_neg nF_] at H
              have HC133 := Aside0.mk H
              clear H
              go_upto_region 17 with (fail)
              go_cut [14] (fun v14 wc => ∃ (kq : Nat) (x14_132 : Bool), v14 = .bool x14_132 ∧ Aside0 (armadalaw04_JournalCrash.j4 kq t625 x14_132 l0_0 l0_1 a0_2 a0_3 a0_4 a0_5 l0_6 t616 t617 t620 t646 t647 t650 = some true) ∧ Aside0 (kq ≤ kj79) ∧ Aside0 (Kd.R k85 85 wc w.heap.size (fun _ => True) (.slice Ao56 t625.length co56) t625) ∧ Aside0 (Kd.R Kd.string 9 wc w.heap.size (fun k_ => some k_ ≠ ((.slice Ao98 t647.length co98) : Value).ownBlock) (.slice Ao30 t617.length co30) t617) ∧ Aside0 (Kd.V Kd.string 9 wc w.heap.size (fun k_ => some k_ ≠ ((.slice Ao56 t625.length co56) : Value).ownBlock ∧ some k_ ≠ ((.slice Ao30 t617.length co30) : Value).ownBlock ∧ some k_ ≠ ((.slice Ao98 t647.length co98) : Value).ownBlock ∧ k_ ≠ gb612 ∧ k_ ≠ gb615 ∧ k_ ≠ gb622 ∧ k_ ≠ gb637 ∧ k_ ≠ gb645 ∧ k_ ≠ gb652) (.slice Ao59 t630.length co59) t630) ∧ Aside0 (Kd.V k29 29 wc w.heap.size (fun k_ => some k_ ≠ ((.slice Ao56 t625.length co56) : Value).ownBlock ∧ some k_ ≠ ((.slice Ao30 t617.length co30) : Value).ownBlock ∧ some k_ ≠ ((.slice Ao98 t647.length co98) : Value).ownBlock ∧ k_ ≠ gb612 ∧ k_ ≠ gb615 ∧ k_ ≠ gb622 ∧ k_ ≠ gb637 ∧ k_ ≠ gb645 ∧ k_ ≠ gb652) (.slice Ao64 t633.length co64) t633) ∧ Aside0 (Kd.V Kd.string 9 wc w.heap.size (fun k_ => some k_ ≠ ((.slice Ao56 t625.length co56) : Value).ownBlock ∧ some k_ ≠ ((.slice Ao30 t617.length co30) : Value).ownBlock ∧ some k_ ≠ ((.slice Ao98 t647.length co98) : Value).ownBlock ∧ k_ ≠ gb612 ∧ k_ ≠ gb615 ∧ k_ ≠ gb622 ∧ k_ ≠ gb637 ∧ k_ ≠ gb645 ∧ k_ ≠ gb652) (.slice Ao70 t638.length co70) t638) ∧ Aside0 (Kd.V k29 29 wc w.heap.size (fun k_ => some k_ ≠ ((.slice Ao56 t625.length co56) : Value).ownBlock ∧ some k_ ≠ ((.slice Ao30 t617.length co30) : Value).ownBlock ∧ some k_ ≠ ((.slice Ao98 t647.length co98) : Value).ownBlock ∧ k_ ≠ gb612 ∧ k_ ≠ gb615 ∧ k_ ≠ gb622 ∧ k_ ≠ gb637 ∧ k_ ≠ gb645 ∧ k_ ≠ gb652) (.slice Ao76 t641.length co76) t641) ∧ Aside0 (Kd.R Kd.string 9 wc w.heap.size (fun k_ => some k_ ≠ ((.slice Ao30 t617.length co30) : Value).ownBlock) (.slice Ao98 t647.length co98) t647) ∧ Aside0 (wc.heap[gb612]? = some (.cells #[(.slice A0_0 l0_0.length c0_0), (.slice A0_1 l0_1.length c0_1), .int .i64 a0_2, .int .i64 a0_3, .string a0_4, .int .i64 a0_5, (.slice A0_6 l0_6.length c0_6)] 65 (0, 0))) ∧ Aside0 (wc.heap[gb615]? = some (.cells #[.int .i64 a0_2, .int .i64 a0_3] 40 (0, 0))) ∧ Aside0 (wc.heap[gb622]? = some (.cells #[.int .i64 t616, (.slice Ao30 t617.length co30), .int .i64 t620] 37 (0, 0))) ∧ Aside0 (wc.heap[gb637]? = some (.cells #[(.slice Ao59 t630.length co59), (.slice Ao64 t633.length co64)] 25 (0, 0))) ∧ Aside0 (wc.heap[gb645]? = some (.cells #[(.slice Ao70 t638.length co70), (.slice Ao76 t641.length co76)] 25 (0, 0))) ∧ Aside0 (wc.heap[gb652]? = some (.cells #[.int .i64 t646, (.slice Ao98 t647.length co98), .int .i64 t650] 37 (0, 0))) ∧ Aside0 (Below w.heap.size w wc))
              case first =>
               have H := HC133.out
               clear HC133
               replace H := Option.bind_eq_some_iff.mp H
               obtain ⟨t654, A1340, H⟩ := H
               try dsimp only at H
               have A134 := Aside0.mk A1340
               clear A1340
               by_cases c135 : t654 = true
               ·subst c135
                rw [if_pos rfl] at H
                have H' := Aside0.mk H
                clear H
                obtain ⟨hnb136, hnc136⟩ := nn_ NB652_612
                obtain ⟨hnb137, hnc137⟩ := nn_ NB652_615
                obtain ⟨hnb138, hnc138⟩ := nn_ NB652_622
                obtain ⟨hnb139, hnc139⟩ := nn_ NB652_637
                obtain ⟨hnb140, hnc140⟩ := nn_ NB652_645
                obtain ⟨hcz141_0, hcz141_1, hcz141_2, hfz141_0, hfz141_1, hfz141_2⟩ := e3_ BK652
                obtain ⟨hnb142, hnc142⟩ := nn_ NB622_612
                obtain ⟨hnb143, hnc143⟩ := nn_ NB622_615
                obtain ⟨hnb144, hnc144⟩ := nn_ NB622_637
                obtain ⟨hnb145, hnc145⟩ := nn_ NB622_645
                obtain ⟨hcz146_0, hcz146_1, hcz146_2, hfz146_0, hfz146_1, hfz146_2⟩ := e3_ BK622
                go_wp2_with (first | ((with_reducible refine gate_callee (f := 22) rfl ?_); refine gL (some 119) Try.func22 #[.slice Ao98 t647.length co98, .slice Ao30 t617.length co30] ?_; (with_reducible refine (armadaref03_Same.calls kj79 _ _ t647 _ _ t617 true _ ?side1 ?side2 ?side3 ?side4 A134.out).mono ?_); (case side1 => exact qK (Kd.R_reads' HO_653001.out).2.2); (case side2 => exact (Kd.R_reads' HO_653001.out).2.1); (case side3 => exact qK (Kd.R_reads' HO_623001.out).2.2); (case side4 => exact (Kd.R_reads' HO_623001.out).2.1); rintro e w' ⟨rfl, ⟨nd, rfl⟩⟩; refine ⟨_, rfl, ?_⟩) | (go_at_call 22; (with_reducible refine (armadaref03_Same.calls kj79 _ _ t647 _ _ t617 true _ ?side1 ?side2 ?side3 ?side4 A134.out).mono ?_); (case side1 => exact qK (Kd.R_reads' HO_653001.out).2.2); (case side2 => exact (Kd.R_reads' HO_653001.out).2.1); (case side3 => exact qK (Kd.R_reads' HO_623001.out).2.2); (case side4 => exact (Kd.R_reads' HO_623001.out).2.1); rintro e w' ⟨rfl, ⟨nd, rfl⟩⟩))
                go_meet
                case rel => exact ⟨_, ((t650 == t620)), eY, H', ⟨by have := HJ1.out; have := HJ18.out; have := HJ46.out; have := HJ79.out; first | omega | exact Nat.le_refl _⟩, ⟨qR HO_6.out⟩, ⟨qR HO_623001.out⟩, ⟨qV HO_638000.out⟩, ⟨qV HO_638001.out⟩, ⟨qV HO_646000.out⟩, ⟨qV HO_646001.out⟩, ⟨qR HO_653001.out⟩, ⟨qB BK612⟩, ⟨qB BK615⟩, ⟨qB BK622⟩, ⟨qB BK637⟩, ⟨qB BK645⟩, ⟨qB BK652⟩, ⟨qH⟩⟩
               ·replace c135 := Bool.eq_false_iff.mpr c135
                subst c135
                rw [if_neg nF_] at H
                have H' := Aside0.mk H
                clear H
                obtain ⟨hnb147, hnc147⟩ := nn_ NB652_612
                obtain ⟨hnb148, hnc148⟩ := nn_ NB652_615
                obtain ⟨hnb149, hnc149⟩ := nn_ NB652_622
                obtain ⟨hnb150, hnc150⟩ := nn_ NB652_637
                obtain ⟨hnb151, hnc151⟩ := nn_ NB652_645
                obtain ⟨hcz152_0, hcz152_1, hcz152_2, hfz152_0, hfz152_1, hfz152_2⟩ := e3_ BK652
                obtain ⟨hnb153, hnc153⟩ := nn_ NB622_612
                obtain ⟨hnb154, hnc154⟩ := nn_ NB622_615
                obtain ⟨hnb155, hnc155⟩ := nn_ NB622_637
                obtain ⟨hnb156, hnc156⟩ := nn_ NB622_645
                obtain ⟨hcz157_0, hcz157_1, hcz157_2, hfz157_0, hfz157_1, hfz157_2⟩ := e3_ BK622
                go_wp2_with (first | ((with_reducible refine gate_callee (f := 22) rfl ?_); refine gL (some 119) Try.func22 #[.slice Ao98 t647.length co98, .slice Ao30 t617.length co30] ?_; (with_reducible refine (armadaref03_Same.calls kj79 _ _ t647 _ _ t617 false _ ?side1 ?side2 ?side3 ?side4 A134.out).mono ?_); (case side1 => exact qK (Kd.R_reads' HO_653001.out).2.2); (case side2 => exact (Kd.R_reads' HO_653001.out).2.1); (case side3 => exact qK (Kd.R_reads' HO_623001.out).2.2); (case side4 => exact (Kd.R_reads' HO_623001.out).2.1); rintro e w' ⟨rfl, ⟨nd, rfl⟩⟩; refine ⟨_, rfl, ?_⟩) | (go_at_call 22; (with_reducible refine (armadaref03_Same.calls kj79 _ _ t647 _ _ t617 false _ ?side1 ?side2 ?side3 ?side4 A134.out).mono ?_); (case side1 => exact qK (Kd.R_reads' HO_653001.out).2.2); (case side2 => exact (Kd.R_reads' HO_653001.out).2.1); (case side3 => exact qK (Kd.R_reads' HO_623001.out).2.2); (case side4 => exact (Kd.R_reads' HO_623001.out).2.1); rintro e w' ⟨rfl, ⟨nd, rfl⟩⟩))
                go_meet
                case rel => exact ⟨_, (false), eY, H', ⟨by have := HJ1.out; have := HJ18.out; have := HJ46.out; have := HJ79.out; first | omega | exact Nat.le_refl _⟩, ⟨qR HO_6.out⟩, ⟨qR HO_623001.out⟩, ⟨qV HO_638000.out⟩, ⟨qV HO_638001.out⟩, ⟨qV HO_646000.out⟩, ⟨qV HO_646001.out⟩, ⟨qR HO_653001.out⟩, ⟨qB BK612⟩, ⟨qB BK615⟩, ⟨qB BK622⟩, ⟨qB BK637⟩, ⟨qB BK645⟩, ⟨qB BK652⟩, ⟨qH⟩⟩
              case rest =>
               clear HC133
               (try clear p2); (try clear c132); (try clear p2)
               obtain ⟨kq, x14_132, rfl, HA, HJ132, HO_6, HO_623001, HO_638000, HO_638001, HO_646000, HO_646001, HO_653001, BK612, BK615, BK622, BK637, BK645, BK652, HB⟩ := hcut
               cases kq with
               | zero => exact absurd HA.out (by simp [armadalaw04_JournalCrash.j4])
               | succ kj132 =>
                have H := HA.out
                clear HA
                simp only [armadalaw04_JournalCrash.j4] at H
                by_cases c158 : ([] : List ByteArray).length + t617.length < 8796093022208
                ·rw [if_pos c158] at H
                 have LMc158 := Aside0.mk c158
                 clear c158
                 obtain ⟨y655, hy655⟩ : ∃ y_ : List ByteArray, y_ = (([] : List ByteArray) ++ t617) := ⟨_, rfl⟩
                 replace H : (if y655.length < 8796093022208 then ((armadaref03_Same.f kj132 t647 (y655 ++ [a0_4])).bind fun t661 => (if a0_5 ≥ (t625.length : Int) then (if t661 = true then ((armadalaw04_live.f kj132).bind fun t662 => (some t662)) else (some false)) else (if a0_5 ≤ (wrap64 ((t625.length : Int) - 2)) then (if x14_132 = true then ((armadalaw04_live.f kj132).bind fun t663 => (some t663)) else (some false)) else (if x14_132 = true then ((armadalaw04_live.f kj132).bind fun t664 => (some t664)) else (if t661 = true then ((armadalaw04_live.f kj132).bind fun t665 => (some t665)) else (some false)))))) else (none)) = some true := by first | (rw [hy655]; with_reducible exact H) | (have H2_ := (Option.bind_some _ _).symm.trans H; rw [hy655]; with_reducible exact H2_) | (have H2_ := (Option.bind_some _ _).symm.trans H; with_reducible exact H2_) | with_reducible exact H | (rw [hy655]; exact H) | exact H
                 have Ny655 := Aside0.mk hy655
                 clear hy655
                 by_cases c159 : y655.length < 8796093022208
                 ·rw [if_pos c159] at H
                  have LMc159 := Aside0.mk c159
                  clear c159
                  obtain ⟨y658, hy658⟩ : ∃ y_ : List ByteArray, y_ = (y655 ++ [a0_4]) := ⟨_, rfl⟩
                  replace H : ((armadaref03_Same.f kj132 t647 y658).bind fun t661 => (if a0_5 ≥ (t625.length : Int) then (if t661 = true then ((armadalaw04_live.f kj132).bind fun t662 => (some t662)) else (some false)) else (if a0_5 ≤ (wrap64 ((t625.length : Int) - 2)) then (if x14_132 = true then ((armadalaw04_live.f kj132).bind fun t663 => (some t663)) else (some false)) else (if x14_132 = true then ((armadalaw04_live.f kj132).bind fun t664 => (some t664)) else (if t661 = true then ((armadalaw04_live.f kj132).bind fun t665 => (some t665)) else (some false)))))) = some true := by first | (rw [hy658]; with_reducible exact H) | (have H2_ := (Option.bind_some _ _).symm.trans H; rw [hy658]; with_reducible exact H2_) | (have H2_ := (Option.bind_some _ _).symm.trans H; with_reducible exact H2_) | with_reducible exact H | (rw [hy658]; exact H) | exact H
                  have Ny658 := Aside0.mk hy658
                  clear hy658
                  replace H := Option.bind_eq_some_iff.mp H
                  obtain ⟨t661, A1600, H⟩ := H
                  try dsimp only at H
                  have A160 := Aside0.mk A1600
                  clear A1600
                  by_cases c161 : a0_5 ≥ (t625.length : Int)
                  ·rw [if_pos c161] at H
                   have c161b0 : decide ((t625.length : Int) ≤ a0_5) = true := decide_eq_true c161
                   clear c161
                   by_cases c162 : t661 = true
                   ·subst c162
                    rw [if_pos rfl] at H
                    replace H := Option.bind_eq_some_iff.mp H
                    obtain ⟨t662, A1630, H⟩ := H
                    try dsimp only at H
                    have A163 := Aside0.mk A1630
                    clear A1630
                    obtain rfl := Option.some.inj H
                    obtain ⟨hnb164, hnc164⟩ := nn_ NB622_612
                    obtain ⟨hnb165, hnc165⟩ := nn_ NB622_615
                    obtain ⟨hnb166, hnc166⟩ := nn_ NB622_637
                    obtain ⟨hnb167, hnc167⟩ := nn_ NB622_645
                    obtain ⟨hnb168, hnc168⟩ := nn_ NB622_652
                    obtain ⟨hcz169_0, hcz169_1, hcz169_2, hfz169_0, hfz169_1, hfz169_2⟩ := e3_ BK622
                    go_wp2_with (first | ((with_reducible refine gate_builtin (b := .append) (xs := #[.tmp 127, .tmp 129]) rfl ?_); (try (refine gate_guard (by rfl) ?_; dsimp only)); at_builtin; refine Kd.R_append_rows Kd.string (w0 := w) w.heap.size rfl (.tmp 127) (.tmp 129) 22 9 (.string ⟨#[]⟩) 16 rfl Try.underlying22 info9 rfl (by decide) (by omega) (.slice none 0 0) ([] : List ByteArray) t617 _ _ _ (fun k_ => some k_ ≠ (.slice Ao30 t617.length co30 : Value).ownBlock ∧ some k_ ≠ (.slice Ao98 t647.length co98 : Value).ownBlock) (fun _ => False) rfl rfl ?aO ?aR (fun _ _ h => h) (fun _ h => h.elim) ?aF ?aB ?aS ?aL ?_; (case aR => repeat (first | exact (Kd.R_reads' HO_623001.out).2.2 | (with_reducible refine Kd.C_alloc ?_ _) | (with_reducible refine Kd.C_drewN ?_ _) | (with_reducible refine Kd.C_drew ?_))); (case aB => exact qH); (case aF => exact (fun k_ hk => ⟨Kd.fresh' (Kd.R_lt (qR HO_623001.out)) k_ hk, Kd.fresh' (Kd.R_lt (qR HO_653001.out)) k_ hk⟩)); (case aO => exact ((Kd.R_nil _ _ _ _ (fun k_ => some k_ ≠ (.slice Ao30 t617.length co30 : Value).ownBlock ∧ some k_ ≠ (.slice Ao98 t647.length co98 : Value).ownBlock)))); (case aS => exact (below_size qH)); (case aL => have := LMc158.out; omega); intro v656 w170 ho hb hg hat; rw [← Ny655.out] at ho; replace HO_623001 := Aside0.mk (Kd.R_after (Kd.R_apart_nil (qR HO_623001.out)) hg hat); replace HO_653001 := Aside0.mk (Kd.R_after (Kd.R_apart_nil (qR HO_653001.out)) hg hat); replace BK612 := Aside0.mk (blk_grown (g := gb612) (o := .cells #[.slice A0_0 l0_0.length c0_0, .slice A0_1 l0_1.length c0_1, .int .i64 a0_2, .int .i64 a0_3, .string a0_4, .int .i64 a0_5, .slice A0_6 l0_6.length c0_6] 65 (0, 0)) (qB BK612) hg (by simp [Value.ownBlock])); replace BK615 := Aside0.mk (blk_grown (g := gb615) (o := .cells #[.int .i64 a0_2, .int .i64 a0_3] 40 (0, 0)) (qB BK615) hg (by simp [Value.ownBlock])); replace BK622 := Aside0.mk (blk_grown (g := gb622) (o := .cells #[.int .i64 t616, .slice Ao30 t617.length co30, .int .i64 t620] 37 (0, 0)) (qB BK622) hg (by simp [Value.ownBlock])); replace BK637 := Aside0.mk (blk_grown (g := gb637) (o := .cells #[.slice Ao59 t630.length co59, .slice Ao64 t633.length co64] 25 (0, 0)) (qB BK637) hg (by simp [Value.ownBlock])); replace BK645 := Aside0.mk (blk_grown (g := gb645) (o := .cells #[.slice Ao70 t638.length co70, .slice Ao76 t641.length co76] 25 (0, 0)) (qB BK645) hg (by simp [Value.ownBlock])); replace BK652 := Aside0.mk (blk_grown (g := gb652) (o := .cells #[.int .i64 t646, .slice Ao98 t647.length co98, .int .i64 t650] 37 (0, 0)) (qB BK652) hg (by simp [Value.ownBlock])); replace HB := Aside0.mk (hb); have HO657 := Aside0.mk (ho); clear ho hb hg hat; obtain ⟨hnb171, hnc171⟩ := nn_ NB612_615; obtain ⟨hnb172, hnc172⟩ := nn_ NB612_637; obtain ⟨hnb173, hnc173⟩ := nn_ NB612_645; obtain ⟨hnb174, hnc174⟩ := nn_ NB612_652; have hcz175_0 := c0_ BK612; have hcz175_1 := c1_ BK612; have hcz175_2 := c2_ BK612; have hcz175_3 := c3_ BK612; have hcz175_4 := c4_ BK612; have hcz175_5 : w170.cell? ⟨gb612, 5, none⟩ = some (.int .i64 a0_5) := (xC_ BK612.out 5).trans rfl; have hcz175_6 : w170.cell? ⟨gb612, 6, none⟩ = some (.slice A0_6 l0_6.length c0_6) := (xC_ BK612.out 6).trans rfl; have hfz175_0 := f_ BK612 0; have hfz175_1 := f_ BK612 1; have hfz175_2 := f_ BK612 2; have hfz175_3 := f_ BK612 3; have hfz175_4 := f_ BK612 4; have hfz175_5 := f_ BK612 5; have hfz175_6 := f_ BK612 6) | ((with_reducible refine gate_builtin (b := .append) (xs := #[.tmp 131, .tmp 134]) rfl ?_); (try (refine gate_guard (by rfl) ?_; dsimp only)); at_builtin; refine Kd.R_append Kd.string (w0 := w) w.heap.size rfl (.tmp 131) (.tmp 134) 22 9 (.string ⟨#[]⟩) 16 rfl Try.underlying22 info9 rfl (by decide) (by omega) v656 y655 a0_4 [.string a0_4] (fun k_ => some k_ ≠ (.slice Ao30 t617.length co30 : Value).ownBlock ∧ some k_ ≠ (.slice Ao98 t647.length co98 : Value).ownBlock) (fun _ => False) rfl rfl ?aP (fun _ hk => hk.elim) ?aF ?aO ?aB ?aS ?aL ?_; (case aP => exact rfl); (case aB => exact qH); (case aF => exact (fun k_ hk => ⟨Kd.fresh' (Kd.R_lt (qR HO_623001.out)) k_ hk, Kd.fresh' (Kd.R_lt (qR HO_653001.out)) k_ hk⟩)); (case aO => exact (qR HO657.out)); (case aS => exact (below_size qH)); (case aL => have := LMc159.out; omega); intro v659 w176 ho hb hg hat; rw [← Ny658.out] at ho; replace HO_623001 := Aside0.mk (Kd.R_after (ok := (fun k_ => some k_ ≠ (.slice Ao98 t647.length co98 : Value).ownBlock)) (qR HO_623001.out) hg hat); replace HO_653001 := Aside0.mk (Kd.R_after (ok := (fun k_ => some k_ ≠ (.slice Ao30 t617.length co30 : Value).ownBlock)) (qR HO_653001.out) hg hat); replace BK612 := Aside0.mk (blk_grown (g := gb612) (o := .cells #[.slice A0_0 l0_0.length c0_0, .slice A0_1 l0_1.length c0_1, .int .i64 a0_2, .int .i64 a0_3, .string a0_4, .int .i64 a0_5, .slice A0_6 l0_6.length c0_6] 65 (0, 0)) (qB BK612) hg (Kd.R_ne HO657.out BK612.out (by decide))); replace BK615 := Aside0.mk (blk_grown (g := gb615) (o := .cells #[.int .i64 a0_2, .int .i64 a0_3] 40 (0, 0)) (qB BK615) hg (Kd.R_ne HO657.out BK615.out (by decide))); replace BK622 := Aside0.mk (blk_grown (g := gb622) (o := .cells #[.int .i64 t616, .slice Ao30 t617.length co30, .int .i64 t620] 37 (0, 0)) (qB BK622) hg (Kd.R_ne HO657.out BK622.out (by decide))); replace BK637 := Aside0.mk (blk_grown (g := gb637) (o := .cells #[.slice Ao59 t630.length co59, .slice Ao64 t633.length co64] 25 (0, 0)) (qB BK637) hg (Kd.R_ne HO657.out BK637.out (by decide))); replace BK645 := Aside0.mk (blk_grown (g := gb645) (o := .cells #[.slice Ao70 t638.length co70, .slice Ao76 t641.length co76] 25 (0, 0)) (qB BK645) hg (Kd.R_ne HO657.out BK645.out (by decide))); replace BK652 := Aside0.mk (blk_grown (g := gb652) (o := .cells #[.int .i64 t646, .slice Ao98 t647.length co98, .int .i64 t650] 37 (0, 0)) (qB BK652) hg (Kd.R_ne HO657.out BK652.out (by decide))); replace HB := Aside0.mk (hb); have HO660 := Aside0.mk (ho); clear HO657; clear ho hb hg hat; obtain ⟨hnb177, hnc177⟩ := nn_ NB652_615; obtain ⟨hnb178, hnc178⟩ := nn_ NB652_637; obtain ⟨hnb179, hnc179⟩ := nn_ NB652_645; obtain ⟨hcz180_0, hcz180_1, hcz180_2, hfz180_0, hfz180_1, hfz180_2⟩ := e3_ BK652; obtain ⟨Ao181, co181, eo181⟩ := Kd.R_slice HO660.out; subst eo181) | ((with_reducible refine gate_callee (f := 22) rfl ?_); refine gL (some 139) Try.func22 #[.slice Ao98 t647.length co98, .slice Ao181 y658.length co181] ?_; (with_reducible refine (armadaref03_Same.calls kj132 _ _ t647 _ _ y658 true _ ?side1 ?side2 ?side3 ?side4 A160.out).mono ?_); (case side1 => exact qK (Kd.R_reads' HO_653001.out).2.2); (case side2 => exact (Kd.R_reads' HO_653001.out).2.1); (case side3 => exact qK (Kd.R_reads' HO660.out).2.2); (case side4 => exact (Kd.R_reads' HO660.out).2.1); rintro e w' ⟨rfl, ⟨nd, rfl⟩⟩; refine ⟨_, rfl, ?_⟩; have hcz182_0 := c0_ BK612; have hcz182_1 := c1_ BK612; have hcz182_2 := c2_ BK612; have hcz182_3 := c3_ BK612; have hcz182_4 := c4_ BK612; have hcz182_5 : w176.cell? ⟨gb612, 5, none⟩ = some (.int .i64 a0_5) := (xC_ BK612.out 5).trans rfl; have hcz182_6 : w176.cell? ⟨gb612, 6, none⟩ = some (.slice A0_6 l0_6.length c0_6) := (xC_ BK612.out 6).trans rfl; have hfz182_0 := f_ BK612 0; have hfz182_1 := f_ BK612 1; have hfz182_2 := f_ BK612 2; have hfz182_3 := f_ BK612 3; have hfz182_4 := f_ BK612 4; have hfz182_5 := f_ BK612 5; have hfz182_6 := f_ BK612 6) | (go_at_call 22; (with_reducible refine (armadaref03_Same.calls kj132 _ _ t647 _ _ y658 true _ ?side1 ?side2 ?side3 ?side4 A160.out).mono ?_); (case side1 => exact qK (Kd.R_reads' HO_653001.out).2.2); (case side2 => exact (Kd.R_reads' HO_653001.out).2.1); (case side3 => exact qK (Kd.R_reads' HO660.out).2.2); (case side4 => exact (Kd.R_reads' HO660.out).2.1); rintro e w' ⟨rfl, ⟨nd, rfl⟩⟩) | (go_at_call 9; (with_reducible refine (armadalaw04_live.calls kj132  true _ A163.out).mono ?_); rintro e w183 ⟨rfl, hb⟩; have hz_ := zqA HB hb; replace hb := below_step hz_ hb; replace HO_623001 := zR HO_623001 hb; replace HO_653001 := zR HO_653001 hb; replace HO660 := zR HO660 hb; replace BK612 := zB BK612 hb; replace BK615 := zB BK615 hb; replace BK622 := zB BK622 hb; replace BK637 := zB BK637 hb; replace BK645 := zB BK645 hb; replace BK652 := zB BK652 hb; replace HB := zH HB hb; clear hz_; (try clear hb)))
                    go_ret
                    exact ⟨eX, qH⟩
                   ·replace c162 := Bool.eq_false_iff.mpr c162
                    subst c162
                    rw [if_neg nF_] at H
                    exact absurd H (by simp)
                  ·rw [if_neg c161] at H
                   have c161b0 : decide ((t625.length : Int) ≤ a0_5) = false := decide_eq_false c161
                   clear c161
                   by_cases c184 : a0_5 ≤ (wrap64 ((t625.length : Int) - 2))
                   ·rw [if_pos c184] at H
                    have c184b0 : decide (a0_5 ≤ (wrap64 ((t625.length : Int) - 2))) = true := decide_eq_true c184
                    clear c184
                    by_cases c185 : x14_132 = true
                    ·subst c185
                     rw [if_pos rfl] at H
                     replace H := Option.bind_eq_some_iff.mp H
                     obtain ⟨t663, A1860, H⟩ := H
                     try dsimp only at H
                     have A186 := Aside0.mk A1860
                     clear A1860
                     obtain rfl := Option.some.inj H
                     obtain ⟨hnb187, hnc187⟩ := nn_ NB622_612
                     obtain ⟨hnb188, hnc188⟩ := nn_ NB622_615
                     obtain ⟨hnb189, hnc189⟩ := nn_ NB622_637
                     obtain ⟨hnb190, hnc190⟩ := nn_ NB622_645
                     obtain ⟨hnb191, hnc191⟩ := nn_ NB622_652
                     obtain ⟨hcz192_0, hcz192_1, hcz192_2, hfz192_0, hfz192_1, hfz192_2⟩ := e3_ BK622
                     go_wp2_with (first | ((with_reducible refine gate_builtin (b := .append) (xs := #[.tmp 127, .tmp 129]) rfl ?_); (try (refine gate_guard (by rfl) ?_; dsimp only)); at_builtin; refine Kd.R_append_rows Kd.string (w0 := w) w.heap.size rfl (.tmp 127) (.tmp 129) 22 9 (.string ⟨#[]⟩) 16 rfl Try.underlying22 info9 rfl (by decide) (by omega) (.slice none 0 0) ([] : List ByteArray) t617 _ _ _ (fun k_ => some k_ ≠ (.slice Ao30 t617.length co30 : Value).ownBlock ∧ some k_ ≠ (.slice Ao98 t647.length co98 : Value).ownBlock) (fun _ => False) rfl rfl ?aO ?aR (fun _ _ h => h) (fun _ h => h.elim) ?aF ?aB ?aS ?aL ?_; (case aR => repeat (first | exact (Kd.R_reads' HO_623001.out).2.2 | (with_reducible refine Kd.C_alloc ?_ _) | (with_reducible refine Kd.C_drewN ?_ _) | (with_reducible refine Kd.C_drew ?_))); (case aB => exact qH); (case aF => exact (fun k_ hk => ⟨Kd.fresh' (Kd.R_lt (qR HO_623001.out)) k_ hk, Kd.fresh' (Kd.R_lt (qR HO_653001.out)) k_ hk⟩)); (case aO => exact ((Kd.R_nil _ _ _ _ (fun k_ => some k_ ≠ (.slice Ao30 t617.length co30 : Value).ownBlock ∧ some k_ ≠ (.slice Ao98 t647.length co98 : Value).ownBlock)))); (case aS => exact (below_size qH)); (case aL => have := LMc158.out; omega); intro v656 w193 ho hb hg hat; rw [← Ny655.out] at ho; replace HO_623001 := Aside0.mk (Kd.R_after (Kd.R_apart_nil (qR HO_623001.out)) hg hat); replace HO_653001 := Aside0.mk (Kd.R_after (Kd.R_apart_nil (qR HO_653001.out)) hg hat); replace BK612 := Aside0.mk (blk_grown (g := gb612) (o := .cells #[.slice A0_0 l0_0.length c0_0, .slice A0_1 l0_1.length c0_1, .int .i64 a0_2, .int .i64 a0_3, .string a0_4, .int .i64 a0_5, .slice A0_6 l0_6.length c0_6] 65 (0, 0)) (qB BK612) hg (by simp [Value.ownBlock])); replace BK615 := Aside0.mk (blk_grown (g := gb615) (o := .cells #[.int .i64 a0_2, .int .i64 a0_3] 40 (0, 0)) (qB BK615) hg (by simp [Value.ownBlock])); replace BK622 := Aside0.mk (blk_grown (g := gb622) (o := .cells #[.int .i64 t616, .slice Ao30 t617.length co30, .int .i64 t620] 37 (0, 0)) (qB BK622) hg (by simp [Value.ownBlock])); replace BK637 := Aside0.mk (blk_grown (g := gb637) (o := .cells #[.slice Ao59 t630.length co59, .slice Ao64 t633.length co64] 25 (0, 0)) (qB BK637) hg (by simp [Value.ownBlock])); replace BK645 := Aside0.mk (blk_grown (g := gb645) (o := .cells #[.slice Ao70 t638.length co70, .slice Ao76 t641.length co76] 25 (0, 0)) (qB BK645) hg (by simp [Value.ownBlock])); replace BK652 := Aside0.mk (blk_grown (g := gb652) (o := .cells #[.int .i64 t646, .slice Ao98 t647.length co98, .int .i64 t650] 37 (0, 0)) (qB BK652) hg (by simp [Value.ownBlock])); replace HB := Aside0.mk (hb); have HO657 := Aside0.mk (ho); clear ho hb hg hat; obtain ⟨hnb194, hnc194⟩ := nn_ NB612_615; obtain ⟨hnb195, hnc195⟩ := nn_ NB612_637; obtain ⟨hnb196, hnc196⟩ := nn_ NB612_645; obtain ⟨hnb197, hnc197⟩ := nn_ NB612_652; have hcz198_0 := c0_ BK612; have hcz198_1 := c1_ BK612; have hcz198_2 := c2_ BK612; have hcz198_3 := c3_ BK612; have hcz198_4 := c4_ BK612; have hcz198_5 : w193.cell? ⟨gb612, 5, none⟩ = some (.int .i64 a0_5) := (xC_ BK612.out 5).trans rfl; have hcz198_6 : w193.cell? ⟨gb612, 6, none⟩ = some (.slice A0_6 l0_6.length c0_6) := (xC_ BK612.out 6).trans rfl; have hfz198_0 := f_ BK612 0; have hfz198_1 := f_ BK612 1; have hfz198_2 := f_ BK612 2; have hfz198_3 := f_ BK612 3; have hfz198_4 := f_ BK612 4; have hfz198_5 := f_ BK612 5; have hfz198_6 := f_ BK612 6) | ((with_reducible refine gate_builtin (b := .append) (xs := #[.tmp 131, .tmp 134]) rfl ?_); (try (refine gate_guard (by rfl) ?_; dsimp only)); at_builtin; refine Kd.R_append Kd.string (w0 := w) w.heap.size rfl (.tmp 131) (.tmp 134) 22 9 (.string ⟨#[]⟩) 16 rfl Try.underlying22 info9 rfl (by decide) (by omega) v656 y655 a0_4 [.string a0_4] (fun k_ => some k_ ≠ (.slice Ao30 t617.length co30 : Value).ownBlock ∧ some k_ ≠ (.slice Ao98 t647.length co98 : Value).ownBlock) (fun _ => False) rfl rfl ?aP (fun _ hk => hk.elim) ?aF ?aO ?aB ?aS ?aL ?_; (case aP => exact rfl); (case aB => exact qH); (case aF => exact (fun k_ hk => ⟨Kd.fresh' (Kd.R_lt (qR HO_623001.out)) k_ hk, Kd.fresh' (Kd.R_lt (qR HO_653001.out)) k_ hk⟩)); (case aO => exact (qR HO657.out)); (case aS => exact (below_size qH)); (case aL => have := LMc159.out; omega); intro v659 w199 ho hb hg hat; rw [← Ny658.out] at ho; replace HO_623001 := Aside0.mk (Kd.R_after (ok := (fun k_ => some k_ ≠ (.slice Ao98 t647.length co98 : Value).ownBlock)) (qR HO_623001.out) hg hat); replace HO_653001 := Aside0.mk (Kd.R_after (ok := (fun k_ => some k_ ≠ (.slice Ao30 t617.length co30 : Value).ownBlock)) (qR HO_653001.out) hg hat); replace BK612 := Aside0.mk (blk_grown (g := gb612) (o := .cells #[.slice A0_0 l0_0.length c0_0, .slice A0_1 l0_1.length c0_1, .int .i64 a0_2, .int .i64 a0_3, .string a0_4, .int .i64 a0_5, .slice A0_6 l0_6.length c0_6] 65 (0, 0)) (qB BK612) hg (Kd.R_ne HO657.out BK612.out (by decide))); replace BK615 := Aside0.mk (blk_grown (g := gb615) (o := .cells #[.int .i64 a0_2, .int .i64 a0_3] 40 (0, 0)) (qB BK615) hg (Kd.R_ne HO657.out BK615.out (by decide))); replace BK622 := Aside0.mk (blk_grown (g := gb622) (o := .cells #[.int .i64 t616, .slice Ao30 t617.length co30, .int .i64 t620] 37 (0, 0)) (qB BK622) hg (Kd.R_ne HO657.out BK622.out (by decide))); replace BK637 := Aside0.mk (blk_grown (g := gb637) (o := .cells #[.slice Ao59 t630.length co59, .slice Ao64 t633.length co64] 25 (0, 0)) (qB BK637) hg (Kd.R_ne HO657.out BK637.out (by decide))); replace BK645 := Aside0.mk (blk_grown (g := gb645) (o := .cells #[.slice Ao70 t638.length co70, .slice Ao76 t641.length co76] 25 (0, 0)) (qB BK645) hg (Kd.R_ne HO657.out BK645.out (by decide))); replace BK652 := Aside0.mk (blk_grown (g := gb652) (o := .cells #[.int .i64 t646, .slice Ao98 t647.length co98, .int .i64 t650] 37 (0, 0)) (qB BK652) hg (Kd.R_ne HO657.out BK652.out (by decide))); replace HB := Aside0.mk (hb); have HO660 := Aside0.mk (ho); clear HO657; clear ho hb hg hat; obtain ⟨hnb200, hnc200⟩ := nn_ NB652_615; obtain ⟨hnb201, hnc201⟩ := nn_ NB652_637; obtain ⟨hnb202, hnc202⟩ := nn_ NB652_645; obtain ⟨hcz203_0, hcz203_1, hcz203_2, hfz203_0, hfz203_1, hfz203_2⟩ := e3_ BK652; obtain ⟨Ao204, co204, eo204⟩ := Kd.R_slice HO660.out; subst eo204) | ((with_reducible refine gate_callee (f := 22) rfl ?_); refine gL (some 139) Try.func22 #[.slice Ao98 t647.length co98, .slice Ao204 y658.length co204] ?_; (with_reducible refine (armadaref03_Same.calls kj132 _ _ t647 _ _ y658 t661 _ ?side1 ?side2 ?side3 ?side4 A160.out).mono ?_); (case side1 => exact qK (Kd.R_reads' HO_653001.out).2.2); (case side2 => exact (Kd.R_reads' HO_653001.out).2.1); (case side3 => exact qK (Kd.R_reads' HO660.out).2.2); (case side4 => exact (Kd.R_reads' HO660.out).2.1); rintro e w' ⟨rfl, ⟨nd, rfl⟩⟩; refine ⟨_, rfl, ?_⟩; have hcz205_0 := c0_ BK612; have hcz205_1 := c1_ BK612; have hcz205_2 := c2_ BK612; have hcz205_3 := c3_ BK612; have hcz205_4 := c4_ BK612; have hcz205_5 : w199.cell? ⟨gb612, 5, none⟩ = some (.int .i64 a0_5) := (xC_ BK612.out 5).trans rfl; have hcz205_6 : w199.cell? ⟨gb612, 6, none⟩ = some (.slice A0_6 l0_6.length c0_6) := (xC_ BK612.out 6).trans rfl; have hfz205_0 := f_ BK612 0; have hfz205_1 := f_ BK612 1; have hfz205_2 := f_ BK612 2; have hfz205_3 := f_ BK612 3; have hfz205_4 := f_ BK612 4; have hfz205_5 := f_ BK612 5; have hfz205_6 := f_ BK612 6) | (go_at_call 22; (with_reducible refine (armadaref03_Same.calls kj132 _ _ t647 _ _ y658 t661 _ ?side1 ?side2 ?side3 ?side4 A160.out).mono ?_); (case side1 => exact qK (Kd.R_reads' HO_653001.out).2.2); (case side2 => exact (Kd.R_reads' HO_653001.out).2.1); (case side3 => exact qK (Kd.R_reads' HO660.out).2.2); (case side4 => exact (Kd.R_reads' HO660.out).2.1); rintro e w' ⟨rfl, ⟨nd, rfl⟩⟩) | (go_at_call 9; (with_reducible refine (armadalaw04_live.calls kj132  true _ A186.out).mono ?_); rintro e w206 ⟨rfl, hb⟩; have hz_ := zqA HB hb; replace hb := below_step hz_ hb; replace HO_623001 := zR HO_623001 hb; replace HO_653001 := zR HO_653001 hb; replace HO660 := zR HO660 hb; replace BK612 := zB BK612 hb; replace BK615 := zB BK615 hb; replace BK622 := zB BK622 hb; replace BK637 := zB BK637 hb; replace BK645 := zB BK645 hb; replace BK652 := zB BK652 hb; replace HB := zH HB hb; clear hz_; (try clear hb)))
                     go_ret
                     exact ⟨eX, qH⟩
                    ·replace c185 := Bool.eq_false_iff.mpr c185
                     subst c185
                     rw [if_neg nF_] at H
                     exact absurd H (by simp)
                   ·rw [if_neg c184] at H
                    have c184b0 : decide (a0_5 ≤ (wrap64 ((t625.length : Int) - 2))) = false := decide_eq_false c184
                    clear c184
                    by_cases c207 : x14_132 = true
                    ·subst c207
                     rw [if_pos rfl] at H
                     replace H := Option.bind_eq_some_iff.mp H
                     obtain ⟨t664, A2080, H⟩ := H
                     try dsimp only at H
                     have A208 := Aside0.mk A2080
                     clear A2080
                     obtain rfl := Option.some.inj H
                     obtain ⟨hnb209, hnc209⟩ := nn_ NB622_612
                     obtain ⟨hnb210, hnc210⟩ := nn_ NB622_615
                     obtain ⟨hnb211, hnc211⟩ := nn_ NB622_637
                     obtain ⟨hnb212, hnc212⟩ := nn_ NB622_645
                     obtain ⟨hnb213, hnc213⟩ := nn_ NB622_652
                     obtain ⟨hcz214_0, hcz214_1, hcz214_2, hfz214_0, hfz214_1, hfz214_2⟩ := e3_ BK622
                     go_wp2_with (first | ((with_reducible refine gate_builtin (b := .append) (xs := #[.tmp 127, .tmp 129]) rfl ?_); (try (refine gate_guard (by rfl) ?_; dsimp only)); at_builtin; refine Kd.R_append_rows Kd.string (w0 := w) w.heap.size rfl (.tmp 127) (.tmp 129) 22 9 (.string ⟨#[]⟩) 16 rfl Try.underlying22 info9 rfl (by decide) (by omega) (.slice none 0 0) ([] : List ByteArray) t617 _ _ _ (fun k_ => some k_ ≠ (.slice Ao30 t617.length co30 : Value).ownBlock ∧ some k_ ≠ (.slice Ao98 t647.length co98 : Value).ownBlock) (fun _ => False) rfl rfl ?aO ?aR (fun _ _ h => h) (fun _ h => h.elim) ?aF ?aB ?aS ?aL ?_; (case aR => repeat (first | exact (Kd.R_reads' HO_623001.out).2.2 | (with_reducible refine Kd.C_alloc ?_ _) | (with_reducible refine Kd.C_drewN ?_ _) | (with_reducible refine Kd.C_drew ?_))); (case aB => exact qH); (case aF => exact (fun k_ hk => ⟨Kd.fresh' (Kd.R_lt (qR HO_623001.out)) k_ hk, Kd.fresh' (Kd.R_lt (qR HO_653001.out)) k_ hk⟩)); (case aO => exact ((Kd.R_nil _ _ _ _ (fun k_ => some k_ ≠ (.slice Ao30 t617.length co30 : Value).ownBlock ∧ some k_ ≠ (.slice Ao98 t647.length co98 : Value).ownBlock)))); (case aS => exact (below_size qH)); (case aL => have := LMc158.out; omega); intro v656 w215 ho hb hg hat; rw [← Ny655.out] at ho; replace HO_623001 := Aside0.mk (Kd.R_after (Kd.R_apart_nil (qR HO_623001.out)) hg hat); replace HO_653001 := Aside0.mk (Kd.R_after (Kd.R_apart_nil (qR HO_653001.out)) hg hat); replace BK612 := Aside0.mk (blk_grown (g := gb612) (o := .cells #[.slice A0_0 l0_0.length c0_0, .slice A0_1 l0_1.length c0_1, .int .i64 a0_2, .int .i64 a0_3, .string a0_4, .int .i64 a0_5, .slice A0_6 l0_6.length c0_6] 65 (0, 0)) (qB BK612) hg (by simp [Value.ownBlock])); replace BK615 := Aside0.mk (blk_grown (g := gb615) (o := .cells #[.int .i64 a0_2, .int .i64 a0_3] 40 (0, 0)) (qB BK615) hg (by simp [Value.ownBlock])); replace BK622 := Aside0.mk (blk_grown (g := gb622) (o := .cells #[.int .i64 t616, .slice Ao30 t617.length co30, .int .i64 t620] 37 (0, 0)) (qB BK622) hg (by simp [Value.ownBlock])); replace BK637 := Aside0.mk (blk_grown (g := gb637) (o := .cells #[.slice Ao59 t630.length co59, .slice Ao64 t633.length co64] 25 (0, 0)) (qB BK637) hg (by simp [Value.ownBlock])); replace BK645 := Aside0.mk (blk_grown (g := gb645) (o := .cells #[.slice Ao70 t638.length co70, .slice Ao76 t641.length co76] 25 (0, 0)) (qB BK645) hg (by simp [Value.ownBlock])); replace BK652 := Aside0.mk (blk_grown (g := gb652) (o := .cells #[.int .i64 t646, .slice Ao98 t647.length co98, .int .i64 t650] 37 (0, 0)) (qB BK652) hg (by simp [Value.ownBlock])); replace HB := Aside0.mk (hb); have HO657 := Aside0.mk (ho); clear ho hb hg hat; obtain ⟨hnb216, hnc216⟩ := nn_ NB612_615; obtain ⟨hnb217, hnc217⟩ := nn_ NB612_637; obtain ⟨hnb218, hnc218⟩ := nn_ NB612_645; obtain ⟨hnb219, hnc219⟩ := nn_ NB612_652; have hcz220_0 := c0_ BK612; have hcz220_1 := c1_ BK612; have hcz220_2 := c2_ BK612; have hcz220_3 := c3_ BK612; have hcz220_4 := c4_ BK612; have hcz220_5 : w215.cell? ⟨gb612, 5, none⟩ = some (.int .i64 a0_5) := (xC_ BK612.out 5).trans rfl; have hcz220_6 : w215.cell? ⟨gb612, 6, none⟩ = some (.slice A0_6 l0_6.length c0_6) := (xC_ BK612.out 6).trans rfl; have hfz220_0 := f_ BK612 0; have hfz220_1 := f_ BK612 1; have hfz220_2 := f_ BK612 2; have hfz220_3 := f_ BK612 3; have hfz220_4 := f_ BK612 4; have hfz220_5 := f_ BK612 5; have hfz220_6 := f_ BK612 6) | ((with_reducible refine gate_builtin (b := .append) (xs := #[.tmp 131, .tmp 134]) rfl ?_); (try (refine gate_guard (by rfl) ?_; dsimp only)); at_builtin; refine Kd.R_append Kd.string (w0 := w) w.heap.size rfl (.tmp 131) (.tmp 134) 22 9 (.string ⟨#[]⟩) 16 rfl Try.underlying22 info9 rfl (by decide) (by omega) v656 y655 a0_4 [.string a0_4] (fun k_ => some k_ ≠ (.slice Ao30 t617.length co30 : Value).ownBlock ∧ some k_ ≠ (.slice Ao98 t647.length co98 : Value).ownBlock) (fun _ => False) rfl rfl ?aP (fun _ hk => hk.elim) ?aF ?aO ?aB ?aS ?aL ?_; (case aP => exact rfl); (case aB => exact qH); (case aF => exact (fun k_ hk => ⟨Kd.fresh' (Kd.R_lt (qR HO_623001.out)) k_ hk, Kd.fresh' (Kd.R_lt (qR HO_653001.out)) k_ hk⟩)); (case aO => exact (qR HO657.out)); (case aS => exact (below_size qH)); (case aL => have := LMc159.out; omega); intro v659 w221 ho hb hg hat; rw [← Ny658.out] at ho; replace HO_623001 := Aside0.mk (Kd.R_after (ok := (fun k_ => some k_ ≠ (.slice Ao98 t647.length co98 : Value).ownBlock)) (qR HO_623001.out) hg hat); replace HO_653001 := Aside0.mk (Kd.R_after (ok := (fun k_ => some k_ ≠ (.slice Ao30 t617.length co30 : Value).ownBlock)) (qR HO_653001.out) hg hat); replace BK612 := Aside0.mk (blk_grown (g := gb612) (o := .cells #[.slice A0_0 l0_0.length c0_0, .slice A0_1 l0_1.length c0_1, .int .i64 a0_2, .int .i64 a0_3, .string a0_4, .int .i64 a0_5, .slice A0_6 l0_6.length c0_6] 65 (0, 0)) (qB BK612) hg (Kd.R_ne HO657.out BK612.out (by decide))); replace BK615 := Aside0.mk (blk_grown (g := gb615) (o := .cells #[.int .i64 a0_2, .int .i64 a0_3] 40 (0, 0)) (qB BK615) hg (Kd.R_ne HO657.out BK615.out (by decide))); replace BK622 := Aside0.mk (blk_grown (g := gb622) (o := .cells #[.int .i64 t616, .slice Ao30 t617.length co30, .int .i64 t620] 37 (0, 0)) (qB BK622) hg (Kd.R_ne HO657.out BK622.out (by decide))); replace BK637 := Aside0.mk (blk_grown (g := gb637) (o := .cells #[.slice Ao59 t630.length co59, .slice Ao64 t633.length co64] 25 (0, 0)) (qB BK637) hg (Kd.R_ne HO657.out BK637.out (by decide))); replace BK645 := Aside0.mk (blk_grown (g := gb645) (o := .cells #[.slice Ao70 t638.length co70, .slice Ao76 t641.length co76] 25 (0, 0)) (qB BK645) hg (Kd.R_ne HO657.out BK645.out (by decide))); replace BK652 := Aside0.mk (blk_grown (g := gb652) (o := .cells #[.int .i64 t646, .slice Ao98 t647.length co98, .int .i64 t650] 37 (0, 0)) (qB BK652) hg (Kd.R_ne HO657.out BK652.out (by decide))); replace HB := Aside0.mk (hb); have HO660 := Aside0.mk (ho); clear HO657; clear ho hb hg hat; obtain ⟨hnb222, hnc222⟩ := nn_ NB652_615; obtain ⟨hnb223, hnc223⟩ := nn_ NB652_637; obtain ⟨hnb224, hnc224⟩ := nn_ NB652_645; obtain ⟨hcz225_0, hcz225_1, hcz225_2, hfz225_0, hfz225_1, hfz225_2⟩ := e3_ BK652; obtain ⟨Ao226, co226, eo226⟩ := Kd.R_slice HO660.out; subst eo226) | ((with_reducible refine gate_callee (f := 22) rfl ?_); refine gL (some 139) Try.func22 #[.slice Ao98 t647.length co98, .slice Ao226 y658.length co226] ?_; (with_reducible refine (armadaref03_Same.calls kj132 _ _ t647 _ _ y658 t661 _ ?side1 ?side2 ?side3 ?side4 A160.out).mono ?_); (case side1 => exact qK (Kd.R_reads' HO_653001.out).2.2); (case side2 => exact (Kd.R_reads' HO_653001.out).2.1); (case side3 => exact qK (Kd.R_reads' HO660.out).2.2); (case side4 => exact (Kd.R_reads' HO660.out).2.1); rintro e w' ⟨rfl, ⟨nd, rfl⟩⟩; refine ⟨_, rfl, ?_⟩; have hcz227_0 := c0_ BK612; have hcz227_1 := c1_ BK612; have hcz227_2 := c2_ BK612; have hcz227_3 := c3_ BK612; have hcz227_4 := c4_ BK612; have hcz227_5 : w221.cell? ⟨gb612, 5, none⟩ = some (.int .i64 a0_5) := (xC_ BK612.out 5).trans rfl; have hcz227_6 : w221.cell? ⟨gb612, 6, none⟩ = some (.slice A0_6 l0_6.length c0_6) := (xC_ BK612.out 6).trans rfl; have hfz227_0 := f_ BK612 0; have hfz227_1 := f_ BK612 1; have hfz227_2 := f_ BK612 2; have hfz227_3 := f_ BK612 3; have hfz227_4 := f_ BK612 4; have hfz227_5 := f_ BK612 5; have hfz227_6 := f_ BK612 6) | (go_at_call 22; (with_reducible refine (armadaref03_Same.calls kj132 _ _ t647 _ _ y658 t661 _ ?side1 ?side2 ?side3 ?side4 A160.out).mono ?_); (case side1 => exact qK (Kd.R_reads' HO_653001.out).2.2); (case side2 => exact (Kd.R_reads' HO_653001.out).2.1); (case side3 => exact qK (Kd.R_reads' HO660.out).2.2); (case side4 => exact (Kd.R_reads' HO660.out).2.1); rintro e w' ⟨rfl, ⟨nd, rfl⟩⟩) | (go_at_call 9; (with_reducible refine (armadalaw04_live.calls kj132  true _ A208.out).mono ?_); rintro e w228 ⟨rfl, hb⟩; have hz_ := zqA HB hb; replace hb := below_step hz_ hb; replace HO_623001 := zR HO_623001 hb; replace HO_653001 := zR HO_653001 hb; replace HO660 := zR HO660 hb; replace BK612 := zB BK612 hb; replace BK615 := zB BK615 hb; replace BK622 := zB BK622 hb; replace BK637 := zB BK637 hb; replace BK645 := zB BK645 hb; replace BK652 := zB BK652 hb; replace HB := zH HB hb; clear hz_; (try clear hb)))
                     go_ret
                     exact ⟨eX, qH⟩
                    ·replace c207 := Bool.eq_false_iff.mpr c207
                     subst c207
                     rw [if_neg nF_] at H
                     by_cases c229 : t661 = true
                     ·subst c229
                      rw [if_pos rfl] at H
                      replace H := Option.bind_eq_some_iff.mp H
                      obtain ⟨t665, A2300, H⟩ := H
                      try dsimp only at H
                      have A230 := Aside0.mk A2300
                      clear A2300
                      obtain rfl := Option.some.inj H
                      obtain ⟨hnb231, hnc231⟩ := nn_ NB622_612
                      obtain ⟨hnb232, hnc232⟩ := nn_ NB622_615
                      obtain ⟨hnb233, hnc233⟩ := nn_ NB622_637
                      obtain ⟨hnb234, hnc234⟩ := nn_ NB622_645
                      obtain ⟨hnb235, hnc235⟩ := nn_ NB622_652
                      obtain ⟨hcz236_0, hcz236_1, hcz236_2, hfz236_0, hfz236_1, hfz236_2⟩ := e3_ BK622
                      go_wp2_with (first | ((with_reducible refine gate_builtin (b := .append) (xs := #[.tmp 127, .tmp 129]) rfl ?_); (try (refine gate_guard (by rfl) ?_; dsimp only)); at_builtin; refine Kd.R_append_rows Kd.string (w0 := w) w.heap.size rfl (.tmp 127) (.tmp 129) 22 9 (.string ⟨#[]⟩) 16 rfl Try.underlying22 info9 rfl (by decide) (by omega) (.slice none 0 0) ([] : List ByteArray) t617 _ _ _ (fun k_ => some k_ ≠ (.slice Ao30 t617.length co30 : Value).ownBlock ∧ some k_ ≠ (.slice Ao98 t647.length co98 : Value).ownBlock) (fun _ => False) rfl rfl ?aO ?aR (fun _ _ h => h) (fun _ h => h.elim) ?aF ?aB ?aS ?aL ?_; (case aR => repeat (first | exact (Kd.R_reads' HO_623001.out).2.2 | (with_reducible refine Kd.C_alloc ?_ _) | (with_reducible refine Kd.C_drewN ?_ _) | (with_reducible refine Kd.C_drew ?_))); (case aB => exact qH); (case aF => exact (fun k_ hk => ⟨Kd.fresh' (Kd.R_lt (qR HO_623001.out)) k_ hk, Kd.fresh' (Kd.R_lt (qR HO_653001.out)) k_ hk⟩)); (case aO => exact ((Kd.R_nil _ _ _ _ (fun k_ => some k_ ≠ (.slice Ao30 t617.length co30 : Value).ownBlock ∧ some k_ ≠ (.slice Ao98 t647.length co98 : Value).ownBlock)))); (case aS => exact (below_size qH)); (case aL => have := LMc158.out; omega); intro v656 w237 ho hb hg hat; rw [← Ny655.out] at ho; replace HO_623001 := Aside0.mk (Kd.R_after (Kd.R_apart_nil (qR HO_623001.out)) hg hat); replace HO_653001 := Aside0.mk (Kd.R_after (Kd.R_apart_nil (qR HO_653001.out)) hg hat); replace BK612 := Aside0.mk (blk_grown (g := gb612) (o := .cells #[.slice A0_0 l0_0.length c0_0, .slice A0_1 l0_1.length c0_1, .int .i64 a0_2, .int .i64 a0_3, .string a0_4, .int .i64 a0_5, .slice A0_6 l0_6.length c0_6] 65 (0, 0)) (qB BK612) hg (by simp [Value.ownBlock])); replace BK615 := Aside0.mk (blk_grown (g := gb615) (o := .cells #[.int .i64 a0_2, .int .i64 a0_3] 40 (0, 0)) (qB BK615) hg (by simp [Value.ownBlock])); replace BK622 := Aside0.mk (blk_grown (g := gb622) (o := .cells #[.int .i64 t616, .slice Ao30 t617.length co30, .int .i64 t620] 37 (0, 0)) (qB BK622) hg (by simp [Value.ownBlock])); replace BK637 := Aside0.mk (blk_grown (g := gb637) (o := .cells #[.slice Ao59 t630.length co59, .slice Ao64 t633.length co64] 25 (0, 0)) (qB BK637) hg (by simp [Value.ownBlock])); replace BK645 := Aside0.mk (blk_grown (g := gb645) (o := .cells #[.slice Ao70 t638.length co70, .slice Ao76 t641.length co76] 25 (0, 0)) (qB BK645) hg (by simp [Value.ownBlock])); replace BK652 := Aside0.mk (blk_grown (g := gb652) (o := .cells #[.int .i64 t646, .slice Ao98 t647.length co98, .int .i64 t650] 37 (0, 0)) (qB BK652) hg (by simp [Value.ownBlock])); replace HB := Aside0.mk (hb); have HO657 := Aside0.mk (ho); clear ho hb hg hat; obtain ⟨hnb238, hnc238⟩ := nn_ NB612_615; obtain ⟨hnb239, hnc239⟩ := nn_ NB612_637; obtain ⟨hnb240, hnc240⟩ := nn_ NB612_645; obtain ⟨hnb241, hnc241⟩ := nn_ NB612_652; have hcz242_0 := c0_ BK612; have hcz242_1 := c1_ BK612; have hcz242_2 := c2_ BK612; have hcz242_3 := c3_ BK612; have hcz242_4 := c4_ BK612; have hcz242_5 : w237.cell? ⟨gb612, 5, none⟩ = some (.int .i64 a0_5) := (xC_ BK612.out 5).trans rfl; have hcz242_6 : w237.cell? ⟨gb612, 6, none⟩ = some (.slice A0_6 l0_6.length c0_6) := (xC_ BK612.out 6).trans rfl; have hfz242_0 := f_ BK612 0; have hfz242_1 := f_ BK612 1; have hfz242_2 := f_ BK612 2; have hfz242_3 := f_ BK612 3; have hfz242_4 := f_ BK612 4; have hfz242_5 := f_ BK612 5; have hfz242_6 := f_ BK612 6) | ((with_reducible refine gate_builtin (b := .append) (xs := #[.tmp 131, .tmp 134]) rfl ?_); (try (refine gate_guard (by rfl) ?_; dsimp only)); at_builtin; refine Kd.R_append Kd.string (w0 := w) w.heap.size rfl (.tmp 131) (.tmp 134) 22 9 (.string ⟨#[]⟩) 16 rfl Try.underlying22 info9 rfl (by decide) (by omega) v656 y655 a0_4 [.string a0_4] (fun k_ => some k_ ≠ (.slice Ao30 t617.length co30 : Value).ownBlock ∧ some k_ ≠ (.slice Ao98 t647.length co98 : Value).ownBlock) (fun _ => False) rfl rfl ?aP (fun _ hk => hk.elim) ?aF ?aO ?aB ?aS ?aL ?_; (case aP => exact rfl); (case aB => exact qH); (case aF => exact (fun k_ hk => ⟨Kd.fresh' (Kd.R_lt (qR HO_623001.out)) k_ hk, Kd.fresh' (Kd.R_lt (qR HO_653001.out)) k_ hk⟩)); (case aO => exact (qR HO657.out)); (case aS => exact (below_size qH)); (case aL => have := LMc159.out; omega); intro v659 w243 ho hb hg hat; rw [← Ny658.out] at ho; replace HO_623001 := Aside0.mk (Kd.R_after (ok := (fun k_ => some k_ ≠ (.slice Ao98 t647.length co98 : Value).ownBlock)) (qR HO_623001.out) hg hat); replace HO_653001 := Aside0.mk (Kd.R_after (ok := (fun k_ => some k_ ≠ (.slice Ao30 t617.length co30 : Value).ownBlock)) (qR HO_653001.out) hg hat); replace BK612 := Aside0.mk (blk_grown (g := gb612) (o := .cells #[.slice A0_0 l0_0.length c0_0, .slice A0_1 l0_1.length c0_1, .int .i64 a0_2, .int .i64 a0_3, .string a0_4, .int .i64 a0_5, .slice A0_6 l0_6.length c0_6] 65 (0, 0)) (qB BK612) hg (Kd.R_ne HO657.out BK612.out (by decide))); replace BK615 := Aside0.mk (blk_grown (g := gb615) (o := .cells #[.int .i64 a0_2, .int .i64 a0_3] 40 (0, 0)) (qB BK615) hg (Kd.R_ne HO657.out BK615.out (by decide))); replace BK622 := Aside0.mk (blk_grown (g := gb622) (o := .cells #[.int .i64 t616, .slice Ao30 t617.length co30, .int .i64 t620] 37 (0, 0)) (qB BK622) hg (Kd.R_ne HO657.out BK622.out (by decide))); replace BK637 := Aside0.mk (blk_grown (g := gb637) (o := .cells #[.slice Ao59 t630.length co59, .slice Ao64 t633.length co64] 25 (0, 0)) (qB BK637) hg (Kd.R_ne HO657.out BK637.out (by decide))); replace BK645 := Aside0.mk (blk_grown (g := gb645) (o := .cells #[.slice Ao70 t638.length co70, .slice Ao76 t641.length co76] 25 (0, 0)) (qB BK645) hg (Kd.R_ne HO657.out BK645.out (by decide))); replace BK652 := Aside0.mk (blk_grown (g := gb652) (o := .cells #[.int .i64 t646, .slice Ao98 t647.length co98, .int .i64 t650] 37 (0, 0)) (qB BK652) hg (Kd.R_ne HO657.out BK652.out (by decide))); replace HB := Aside0.mk (hb); have HO660 := Aside0.mk (ho); clear HO657; clear ho hb hg hat; obtain ⟨hnb244, hnc244⟩ := nn_ NB652_615; obtain ⟨hnb245, hnc245⟩ := nn_ NB652_637; obtain ⟨hnb246, hnc246⟩ := nn_ NB652_645; obtain ⟨hcz247_0, hcz247_1, hcz247_2, hfz247_0, hfz247_1, hfz247_2⟩ := e3_ BK652; obtain ⟨Ao248, co248, eo248⟩ := Kd.R_slice HO660.out; subst eo248) | ((with_reducible refine gate_callee (f := 22) rfl ?_); refine gL (some 139) Try.func22 #[.slice Ao98 t647.length co98, .slice Ao248 y658.length co248] ?_; (with_reducible refine (armadaref03_Same.calls kj132 _ _ t647 _ _ y658 true _ ?side1 ?side2 ?side3 ?side4 A160.out).mono ?_); (case side1 => exact qK (Kd.R_reads' HO_653001.out).2.2); (case side2 => exact (Kd.R_reads' HO_653001.out).2.1); (case side3 => exact qK (Kd.R_reads' HO660.out).2.2); (case side4 => exact (Kd.R_reads' HO660.out).2.1); rintro e w' ⟨rfl, ⟨nd, rfl⟩⟩; refine ⟨_, rfl, ?_⟩; have hcz249_0 := c0_ BK612; have hcz249_1 := c1_ BK612; have hcz249_2 := c2_ BK612; have hcz249_3 := c3_ BK612; have hcz249_4 := c4_ BK612; have hcz249_5 : w243.cell? ⟨gb612, 5, none⟩ = some (.int .i64 a0_5) := (xC_ BK612.out 5).trans rfl; have hcz249_6 : w243.cell? ⟨gb612, 6, none⟩ = some (.slice A0_6 l0_6.length c0_6) := (xC_ BK612.out 6).trans rfl; have hfz249_0 := f_ BK612 0; have hfz249_1 := f_ BK612 1; have hfz249_2 := f_ BK612 2; have hfz249_3 := f_ BK612 3; have hfz249_4 := f_ BK612 4; have hfz249_5 := f_ BK612 5; have hfz249_6 := f_ BK612 6) | (go_at_call 22; (with_reducible refine (armadaref03_Same.calls kj132 _ _ t647 _ _ y658 true _ ?side1 ?side2 ?side3 ?side4 A160.out).mono ?_); (case side1 => exact qK (Kd.R_reads' HO_653001.out).2.2); (case side2 => exact (Kd.R_reads' HO_653001.out).2.1); (case side3 => exact qK (Kd.R_reads' HO660.out).2.2); (case side4 => exact (Kd.R_reads' HO660.out).2.1); rintro e w' ⟨rfl, ⟨nd, rfl⟩⟩) | (go_at_call 9; (with_reducible refine (armadalaw04_live.calls kj132  true _ A230.out).mono ?_); rintro e w250 ⟨rfl, hb⟩; have hz_ := zqA HB hb; replace hb := below_step hz_ hb; replace HO_623001 := zR HO_623001 hb; replace BK612 := zB BK612 hb; replace BK615 := zB BK615 hb; replace BK622 := zB BK622 hb; replace BK637 := zB BK637 hb; replace BK645 := zB BK645 hb; replace BK652 := zB BK652 hb; replace HB := zH HB hb; clear hz_; (try clear hb)))
                      go_ret
                      exact ⟨eX, qH⟩
                     ·replace c229 := Bool.eq_false_iff.mpr c229
                      subst c229
                      rw [if_neg nF_] at H
                      exact absurd H (by simp)
                 ·rw [if_neg c159] at H
                  exact absurd H (by simp)
                ·rw [if_neg c158] at H
                 exact absurd H (by simp)
       ·rw [if_neg c44] at H
        have c44b0 : (t628 == 0) = false := beq_eq_false_iff_ne.mpr c44
        have c44b1 : (t628 != 0) = true := bne_iff_ne.mpr c44
        by_cases c251 : (t625.length : Int) = 0
        ·rw [if_pos c251] at H
         have c251b0 : ((t625.length : Int) == 0) = true := beq_iff_eq.mpr c251
         have c251b1 : ((t625.length : Int) != 0) = false := bne_eq_false_iff_eq.mpr c251
         clear c251
         replace H := Option.bind_eq_some_iff.mp H
         obtain ⟨t629, A2520, H⟩ := H
         try dsimp only at H
         have A252 := Aside0.mk A2520
         clear A2520
         obtain rfl := Option.some.inj H
         obtain ⟨hnb253, hnc253⟩ := nn_ NB615_612
         obtain ⟨hnb254, hnc254⟩ := nn_ NB615_622
         obtain ⟨hcz255_0, hcz255_1, hfz255_0, hfz255_1⟩ := e2_ BK615
         obtain ⟨hnb256, hnc256⟩ := nn_ NB622_612
         obtain ⟨hcz257_0, hcz257_1, hcz257_2, hfz257_0, hfz257_1, hfz257_2⟩ := e3_ BK622
         have hcz258_0 := c0_ BK612
         have hcz258_1 := c1_ BK612
         have hcz258_2 := c2_ BK612
         have hcz258_3 := c3_ BK612
         have hcz258_4 := c4_ BK612
         have hcz258_5 : wc.cell? ⟨gb612, 5, none⟩ = some (.int .i64 a0_5) := (xC_ BK612.out 5).trans rfl
         have hcz258_6 : wc.cell? ⟨gb612, 6, none⟩ = some (.slice A0_6 l0_6.length c0_6) := (xC_ BK612.out 6).trans rfl
         have hfz258_0 := f_ BK612 0
         have hfz258_1 := f_ BK612 1
         have hfz258_2 := f_ BK612 2
         have hfz258_3 := f_ BK612 3
         have hfz258_4 := f_ BK612 4
         have hfz258_5 := f_ BK612 5
         have hfz258_6 := f_ BK612 6
         go_wp2_with (first | ((with_reducible refine gate_callee (f := 20) rfl ?_); refine gL (some 60) Try.func20 #[.agg #[.int .i64 a0_2, .int .i64 a0_3], .agg #[.int .i64 t616, .slice Ao30 t617.length co30, .int .i64 t620], .string a0_4] ?_; (with_reducible refine (journal_Add.calls kj18 a0_2 a0_3 t616 _ _ t617 t620 a0_4 t625 t628 _ ?side1 ?side2 A43.out).mono ?_); (case side1 => exact qK (Kd.R_reads' HO_623001.out).2.2); (case side2 => exact (Kd.R_reads' HO_623001.out).2.1); rintro e w259 ⟨v626, rfl, ho0, hb⟩; refine ⟨_, rfl, ?_⟩; have HO627 := Aside0.mk (Kd.R_lower ho0 (below_size qH)); replace BK612 := wB BK612 hb; replace BK615 := wB BK615 hb; replace BK622 := wB BK622 hb; replace HB := wH hb; (try clear hb); (try clear ho0); obtain ⟨Ao260, co260, eo260⟩ := Kd.R_slice HO627.out; subst eo260) | (go_at_call 9; (with_reducible refine (armadalaw04_live.calls kj18  true _ A252.out).mono ?_); rintro e w261 ⟨rfl, hb⟩; have hz_ := zqA HB hb; replace hb := below_step hz_ hb; replace BK612 := zB BK612 hb; replace BK615 := zB BK615 hb; replace BK622 := zB BK622 hb; replace HB := zH HB hb; clear hz_; (try clear hb)))
         go_ret
         exact ⟨eX, qH⟩
        ·rw [if_neg c251] at H
         have c251b0 : ((t625.length : Int) == 0) = false := beq_eq_false_iff_ne.mpr c251
         have c251b1 : ((t625.length : Int) != 0) = true := bne_iff_ne.mpr c251
         have c251b2 : ¬ (t625 = []) := fun h_ => c251 (by rw [h_]; rfl)
         exact absurd H (by simp)
end Go.Proofs.Ythoddglnfdmdeaa.P
