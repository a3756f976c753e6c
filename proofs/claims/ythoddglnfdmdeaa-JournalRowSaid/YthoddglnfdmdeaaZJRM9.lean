/- Printed functions, merged. -/
import Derived.Test.YthoddglnfdmdeaaZJRM0
import Derived.Test.YthoddglnfdmdeaaZJRH3
import Derived.Test.YthoddglnfdmdeaaZJRM7
import Derived.Test.YthoddglnfdmdeaaZJRM8
import Derived.Test.YthoddglnfdmdeaaZJRM1
import Derived.Test.YthoddglnfdmdeaaZJRM5
import Derived.Test.YthoddglnfdmdeaaZJRH7
import Derived.Test.YthoddglnfdmdeaaZJRH6
import Derived.Test.YthoddglnfdmdeaaZJRAl
namespace Go.Proofs.Ythoddglnfdmdeaa.P
open Go.RowKit Go.Proofs.YthoddglnfdmdeaaW.PrintWords Go.Proofs.YthoddglnfdmdeaaW.PrintLast Go.Proofs.YthoddglnfdmdeaaW.PrintMore
attribute [local go_sem] max2_int min2_int max_two min_two max_three min_three max_four min_four   -- for this text's walks alone
set_option linter.unusedVariables false
set_option linter.unusedSimpArgs false
mutual
def armadalaw04_JournalRow.j0 : Nat → Int → Int → List ByteArray → Bool → Option (Bool)
 | 0, _, _, _, _ => none
 | k + 1, x0, x1, x2, x42 => if x42 = true then ((armadalaw04_live.f k).bind fun t553 => (some t553)) else ((armadaref01_New.f k x0).bind fun bt554 => ((journal_Start.f k 0 x0 x1).bind fun bt563 => ((disk_Run.f k bt554.1 bt554.2.1 bt563.1 (bt563.1.length : Int)).bind fun bt567 => (if bt563.2 = 0 then (armadalaw04_JournalRow.j1 k x0 x1 x2 (bt567.2.2 != 0) bt567.1 bt567.2.1 0 x0) else (armadalaw04_JournalRow.j1 k x0 x1 x2 true bt567.1 bt567.2.1 0 x0)))))
def armadalaw04_JournalRow.j1 : Nat → Int → Int → List ByteArray → Bool → List ByteArray → List (S29) → Int → Int → Option (Bool)
 | 0, _, _, _, _, _, _, _, _ => none
 | k + 1, x0, x1, x2, x70, x562000, x562001, x563000, x563001 => if x70 = true then (some false) else (armadalaw04_JournalRow.l0 k x0 x1 x2 ([] : List ByteArray) 0 x562000 x562001 x563000 x563001)
def armadalaw04_JournalRow.l0 : Nat → Int → Int → List ByteArray → List ByteArray → Int → List ByteArray → List (S29) → Int → Int → Option (Bool)
 | 0, _, _, _, _, _, _, _, _, _ => none
 | k + 1, x0, x1, x2, x13, x14, x562000, x562001, x563000, x563001 => if x14 < (x2.length : Int) then (if 0 ≤ x14 then (if ((rdOf ByteArray.empty x2 x14).size : Int) > 4096 then ((armadalaw04_live.f k).bind fun t584 => (some t584)) else ((journal_Open.f k x562000 x562001 x563000 x563001).bind fun bt585 => ((journal_Add.f k x563000 x563001 bt585.1 bt585.2.1 bt585.2.2.1 (rdOf ByteArray.empty x2 x14)).bind fun bt593 => ((disk_Run.f k x562000 x562001 bt593.1 (bt593.1.length : Int)).bind fun bt597 => ((armadaref03_Count.f ((rdOf ByteArray.empty x2 x14).size : Int)).bind fun t606 => (if bt585.2.2.2 = 0 then (if bt597.2.2 = 0 then (if ((bt593.2 == 0) != (decide ((wrap64 (1 + t606)) ≤ (wrap64 (x0 - bt585.2.2.1))))) = true then (armadalaw04_JournalRow.j3 k x0 x1 x2 x13 x14 (decide ((wrap64 (1 + t606)) ≤ (wrap64 (x0 - bt585.2.2.1)))) true x563000 x563001 bt597.1 bt597.2.1) else ((armadaref03_Same.f k bt585.2.1 x13).bind fun t607 => (armadalaw04_JournalRow.j3 k x0 x1 x2 x13 x14 (decide ((wrap64 (1 + t606)) ≤ (wrap64 (x0 - bt585.2.2.1)))) (!t607) x563000 x563001 bt597.1 bt597.2.1))) else (armadalaw04_JournalRow.j3 k x0 x1 x2 x13 x14 (decide ((wrap64 (1 + t606)) ≤ (wrap64 (x0 - bt585.2.2.1)))) true x563000 x563001 bt597.1 bt597.2.1)) else (armadalaw04_JournalRow.j3 k x0 x1 x2 x13 x14 (decide ((wrap64 (1 + t606)) ≤ (wrap64 (x0 - bt585.2.2.1)))) true x563000 x563001 bt597.1 bt597.2.1))))))) else (none)) else ((journal_Open.f k x562000 x562001 x563000 x563001).bind fun bt574 => (if bt574.2.2.2 = 0 then ((armadaref03_Same.f k bt574.2.1 x13).bind fun t581 => (if t581 = true then (if bt574.1 = x1 then ((armadalaw04_live.f k).bind fun t582 => (some t582)) else (some false)) else (some false))) else (some false)))
def armadalaw04_JournalRow.j3 : Nat → Int → Int → List ByteArray → List ByteArray → Int → Bool → Bool → Int → Int → List ByteArray → List (S29) → Option (Bool)
 | 0, _, _, _, _, _, _, _, _, _, _, _ => none
 | k + 1, x0, x1, x2, x13, x14, x21, x138, x563000, x563001, x605000, x605001 => if x138 = true then (some false) else (if x21 = true then (if 0 ≤ x14 then (if x14 < (x2.length : Int) then (if x13.length < 8796093022208 then (armadalaw04_JournalRow.l0 k x0 x1 x2 (x13 ++ [rdOf ByteArray.empty x2 x14]) (wrap64 (x14 + 1)) x605000 x605001 x563000 x563001) else (none)) else (none)) else (none)) else (armadalaw04_JournalRow.l0 k x0 x1 x2 x13 (wrap64 (x14 + 1)) x605000 x605001 x563000 x563001))
end
def armadalaw04_JournalRow.f (k : Nat) (a0 : Int) (a1 : Int) (l2 : List ByteArray) : Option (Bool) := if a0 < 2 then (armadalaw04_JournalRow.j0 k a0 a1 l2 true) else (if a0 > 300 then (armadalaw04_JournalRow.j0 k a0 a1 l2 true) else (if a1 < 0 then (armadalaw04_JournalRow.j0 k a0 a1 l2 true) else (if a1 > 1073741824 then (armadalaw04_JournalRow.j0 k a0 a1 l2 true) else (armadalaw04_JournalRow.j0 k a0 a1 l2 (decide ((l2.length : Int) > 12))))))
theorem armadalaw04_JournalRow.mono_l : ∀ k, (∀ y0 y1 y2 y3, LeO (armadalaw04_JournalRow.j0 k y0 y1 y2 y3) (armadalaw04_JournalRow.j0 (k + 1) y0 y1 y2 y3)) ∧ (∀ y0 y1 y2 y3 y4 y5 y6 y7, LeO (armadalaw04_JournalRow.j1 k y0 y1 y2 y3 y4 y5 y6 y7) (armadalaw04_JournalRow.j1 (k + 1) y0 y1 y2 y3 y4 y5 y6 y7)) ∧ (∀ y0 y1 y2 y3 y4 y5 y6 y7 y8, LeO (armadalaw04_JournalRow.l0 k y0 y1 y2 y3 y4 y5 y6 y7 y8) (armadalaw04_JournalRow.l0 (k + 1) y0 y1 y2 y3 y4 y5 y6 y7 y8)) ∧ (∀ y0 y1 y2 y3 y4 y5 y6 y7 y8 y9 y10, LeO (armadalaw04_JournalRow.j3 k y0 y1 y2 y3 y4 y5 y6 y7 y8 y9 y10) (armadalaw04_JournalRow.j3 (k + 1) y0 y1 y2 y3 y4 y5 y6 y7 y8 y9 y10))
 | 0 => ⟨fun _ _ _ _ r h => by simp [armadalaw04_JournalRow.j0] at h, fun _ _ _ _ _ _ _ _ r h => by simp [armadalaw04_JournalRow.j1] at h, fun _ _ _ _ _ _ _ _ _ r h => by simp [armadalaw04_JournalRow.l0] at h, fun _ _ _ _ _ _ _ _ _ _ _ r h => by simp [armadalaw04_JournalRow.j3] at h⟩
 | k + 1 => by
  obtain ⟨ih0, ih1, ih2, ih3⟩ := armadalaw04_JournalRow.mono_l k
  refine ⟨?_, ?_, ?_, ?_⟩
  ·intro y0 y1 y2 y3
   unfold armadalaw04_JournalRow.j0
   repeat' first
   | (with_reducible exact ih0 _ _ _ _)
   | (with_reducible exact ih1 _ _ _ _ _ _ _ _)
   | (with_reducible exact ih2 _ _ _ _ _ _ _ _ _)
   | (with_reducible exact ih3 _ _ _ _ _ _ _ _ _ _ _)
   | (with_reducible exact armadalaw04_live.mono _)
   | (with_reducible exact armadaref01_New.mono _ _)
   | (with_reducible exact armadaref03_Same.mono _ _ _)
   | (with_reducible exact disk_Run.mono _ _ _ _ _)
   | (with_reducible exact journal_Add.mono _ _ _ _ _ _ _)
   | (with_reducible exact journal_Open.mono _ _ _ _ _)
   | (with_reducible exact journal_Start.mono _ _ _ _)
   | (with_reducible exact LeO.refl _)
   | (with_reducible exact LeO.none _)
   | (with_reducible refine LeO.ite ?_ ?_)
   | (with_reducible refine LeO.bind ?_ (fun _ => ?_))
   | exact ih0 _ _ _ _
   | exact ih1 _ _ _ _ _ _ _ _
   | exact ih2 _ _ _ _ _ _ _ _ _
   | exact ih3 _ _ _ _ _ _ _ _ _ _ _
   | exact armadalaw04_live.mono _
   | exact armadaref01_New.mono _ _
   | exact armadaref03_Same.mono _ _ _
   | exact disk_Run.mono _ _ _ _ _
   | exact journal_Add.mono _ _ _ _ _ _ _
   | exact journal_Open.mono _ _ _ _ _
   | exact journal_Start.mono _ _ _ _
   | exact LeO.none _
   | refine LeO.ite ?_ ?_
   | refine LeO.bind ?_ (fun _ => ?_)
  ·intro y0 y1 y2 y3 y4 y5 y6 y7
   unfold armadalaw04_JournalRow.j1
   repeat' first
   | (with_reducible exact ih0 _ _ _ _)
   | (with_reducible exact ih1 _ _ _ _ _ _ _ _)
   | (with_reducible exact ih2 _ _ _ _ _ _ _ _ _)
   | (with_reducible exact ih3 _ _ _ _ _ _ _ _ _ _ _)
   | (with_reducible exact armadalaw04_live.mono _)
   | (with_reducible exact armadaref01_New.mono _ _)
   | (with_reducible exact armadaref03_Same.mono _ _ _)
   | (with_reducible exact disk_Run.mono _ _ _ _ _)
   | (with_reducible exact journal_Add.mono _ _ _ _ _ _ _)
   | (with_reducible exact journal_Open.mono _ _ _ _ _)
   | (with_reducible exact journal_Start.mono _ _ _ _)
   | (with_reducible exact LeO.refl _)
   | (with_reducible exact LeO.none _)
   | (with_reducible refine LeO.ite ?_ ?_)
   | (with_reducible refine LeO.bind ?_ (fun _ => ?_))
   | exact ih0 _ _ _ _
   | exact ih1 _ _ _ _ _ _ _ _
   | exact ih2 _ _ _ _ _ _ _ _ _
   | exact ih3 _ _ _ _ _ _ _ _ _ _ _
   | exact armadalaw04_live.mono _
   | exact armadaref01_New.mono _ _
   | exact armadaref03_Same.mono _ _ _
   | exact disk_Run.mono _ _ _ _ _
   | exact journal_Add.mono _ _ _ _ _ _ _
   | exact journal_Open.mono _ _ _ _ _
   | exact journal_Start.mono _ _ _ _
   | exact LeO.none _
   | refine LeO.ite ?_ ?_
   | refine LeO.bind ?_ (fun _ => ?_)
  ·intro y0 y1 y2 y3 y4 y5 y6 y7 y8
   unfold armadalaw04_JournalRow.l0
   repeat' first
   | (with_reducible exact ih0 _ _ _ _)
   | (with_reducible exact ih1 _ _ _ _ _ _ _ _)
   | (with_reducible exact ih2 _ _ _ _ _ _ _ _ _)
   | (with_reducible exact ih3 _ _ _ _ _ _ _ _ _ _ _)
   | (with_reducible exact armadalaw04_live.mono _)
   | (with_reducible exact armadaref01_New.mono _ _)
   | (with_reducible exact armadaref03_Same.mono _ _ _)
   | (with_reducible exact disk_Run.mono _ _ _ _ _)
   | (with_reducible exact journal_Add.mono _ _ _ _ _ _ _)
   | (with_reducible exact journal_Open.mono _ _ _ _ _)
   | (with_reducible exact journal_Start.mono _ _ _ _)
   | (with_reducible exact LeO.refl _)
   | (with_reducible exact LeO.none _)
   | (with_reducible refine LeO.ite ?_ ?_)
   | (with_reducible refine LeO.bind ?_ (fun _ => ?_))
   | exact ih0 _ _ _ _
   | exact ih1 _ _ _ _ _ _ _ _
   | exact ih2 _ _ _ _ _ _ _ _ _
   | exact ih3 _ _ _ _ _ _ _ _ _ _ _
   | exact armadalaw04_live.mono _
   | exact armadaref01_New.mono _ _
   | exact armadaref03_Same.mono _ _ _
   | exact disk_Run.mono _ _ _ _ _
   | exact journal_Add.mono _ _ _ _ _ _ _
   | exact journal_Open.mono _ _ _ _ _
   | exact journal_Start.mono _ _ _ _
   | exact LeO.none _
   | refine LeO.ite ?_ ?_
   | refine LeO.bind ?_ (fun _ => ?_)
  ·intro y0 y1 y2 y3 y4 y5 y6 y7 y8 y9 y10
   unfold armadalaw04_JournalRow.j3
   repeat' first
   | (with_reducible exact ih0 _ _ _ _)
   | (with_reducible exact ih1 _ _ _ _ _ _ _ _)
   | (with_reducible exact ih2 _ _ _ _ _ _ _ _ _)
   | (with_reducible exact ih3 _ _ _ _ _ _ _ _ _ _ _)
   | (with_reducible exact armadalaw04_live.mono _)
   | (with_reducible exact armadaref01_New.mono _ _)
   | (with_reducible exact armadaref03_Same.mono _ _ _)
   | (with_reducible exact disk_Run.mono _ _ _ _ _)
   | (with_reducible exact journal_Add.mono _ _ _ _ _ _ _)
   | (with_reducible exact journal_Open.mono _ _ _ _ _)
   | (with_reducible exact journal_Start.mono _ _ _ _)
   | (with_reducible exact LeO.refl _)
   | (with_reducible exact LeO.none _)
   | (with_reducible refine LeO.ite ?_ ?_)
   | (with_reducible refine LeO.bind ?_ (fun _ => ?_))
   | exact ih0 _ _ _ _
   | exact ih1 _ _ _ _ _ _ _ _
   | exact ih2 _ _ _ _ _ _ _ _ _
   | exact ih3 _ _ _ _ _ _ _ _ _ _ _
   | exact armadalaw04_live.mono _
   | exact armadaref01_New.mono _ _
   | exact armadaref03_Same.mono _ _ _
   | exact disk_Run.mono _ _ _ _ _
   | exact journal_Add.mono _ _ _ _ _ _ _
   | exact journal_Open.mono _ _ _ _ _
   | exact journal_Start.mono _ _ _ _
   | exact LeO.none _
   | refine LeO.ite ?_ ?_
   | refine LeO.bind ?_ (fun _ => ?_)
theorem armadalaw04_JournalRow.mono : ∀ a0 a1 a2 k, LeO (armadalaw04_JournalRow.f k a0 a1 a2) (armadalaw04_JournalRow.f (k + 1) a0 a1 a2) := by
 intro a0 a1 a2 k
 obtain ⟨ih0, ih1, ih2, ih3⟩ := armadalaw04_JournalRow.mono_l k
 unfold armadalaw04_JournalRow.f
 repeat' first
   | (with_reducible exact ih0 _ _ _ _)
   | (with_reducible exact ih1 _ _ _ _ _ _ _ _)
   | (with_reducible exact ih2 _ _ _ _ _ _ _ _ _)
   | (with_reducible exact ih3 _ _ _ _ _ _ _ _ _ _ _)
   | (with_reducible exact armadalaw04_live.mono _)
   | (with_reducible exact armadaref01_New.mono _ _)
   | (with_reducible exact armadaref03_Same.mono _ _ _)
   | (with_reducible exact disk_Run.mono _ _ _ _ _)
   | (with_reducible exact journal_Add.mono _ _ _ _ _ _ _)
   | (with_reducible exact journal_Open.mono _ _ _ _ _)
   | (with_reducible exact journal_Start.mono _ _ _ _)
   | (with_reducible exact LeO.refl _)
   | (with_reducible exact LeO.none _)
   | (with_reducible refine LeO.ite ?_ ?_)
   | (with_reducible refine LeO.bind ?_ (fun _ => ?_))
   | exact ih0 _ _ _ _
   | exact ih1 _ _ _ _ _ _ _ _
   | exact ih2 _ _ _ _ _ _ _ _ _
   | exact ih3 _ _ _ _ _ _ _ _ _ _ _
   | exact armadalaw04_live.mono _
   | exact armadaref01_New.mono _ _
   | exact armadaref03_Same.mono _ _ _
   | exact disk_Run.mono _ _ _ _ _
   | exact journal_Add.mono _ _ _ _ _ _ _
   | exact journal_Open.mono _ _ _ _ _
   | exact journal_Start.mono _ _ _ _
   | exact LeO.none _
   | refine LeO.ite ?_ ?_
   | refine LeO.bind ?_ (fun _ => ?_)
def armadalaw04_JournalRow.T16 : Bool × List (List Nat × List Nat) := (true, [([], []), ([], []), ([], []), ([], []), ([2, 3], [2, 3]), ([4], [4]), ([0, 1, 5], [0, 1, 5]), ([6], [6]), ([7], [7]), ([7], [7]), ([8, 6, 0, 1, 2, 3, 4, 5, 6, 7, 8], [8]), ([9, 10, 0, 1, 2, 3, 4, 5, 6, 7, 8, 9, 10], [9])])
def armadalaw04_JournalRow.B16 : List Nat := [0, 0, 0, 0, 12, 28, 63, 127, 255, 255, 511, 2047]
theorem armadalaw04_JournalRow.tab16 : rtab .any (opsOf Try.f5 16) = armadalaw04_JournalRow.T16 := by kernel_rfl
theorem armadalaw04_JournalRow.bits16 : waitsOk armadalaw04_JournalRow.T16.2 armadalaw04_JournalRow.B16 = true := by kernel_rfl
def armadalaw04_JournalRow.T18 : Bool × List (List Nat × List Nat) := (true, [([], []), ([], []), ([0, 1], [0, 1]), ([2], [2]), ([3], [3]), ([4], [4]), ([5], [5]), ([], []), ([], []), ([8], [8]), ([7, 9], [7, 9]), ([6, 10], [6, 10]), ([11, 5, 0, 1, 2, 3, 4, 5, 6, 7, 8, 9, 10, 11], [11])])
def armadalaw04_JournalRow.B18 : List Nat := [0, 0, 3, 7, 15, 31, 63, 0, 0, 256, 896, 2047, 4095]
theorem armadalaw04_JournalRow.tab18 : rtab .any (opsOf Try.f5 18) = armadalaw04_JournalRow.T18 := by kernel_rfl
theorem armadalaw04_JournalRow.bits18 : waitsOk armadalaw04_JournalRow.T18.2 armadalaw04_JournalRow.B18 = true := by kernel_rfl
set_option maxHeartbeats 8000000 in
set_option maxRecDepth 100000 in
theorem armadalaw04_JournalRow.calls (k : Nat) (a0 : Int) (a1 : Int) (A2 : Option Addr) (c2 : Nat) (l2 : List ByteArray) (r : Bool) (w : World) (hr2 : Kd.C Kd.string w A2 l2.length l2) (hc2 : l2.length ≤ c2) (h : armadalaw04_JournalRow.f k a0 a1 l2 = some r) (hT_ : r = true := by rfl) :
  Calls Try.prog 5 #[.int .i64 a0, .int .i64 a1, .slice A2 l2.length c2] w fun e w' => e = .returned (.bool r) ∧ Below w.heap.size w w' := by
 subst hT_
 have hu25 := Try.underlying25
 have hu40 := Try.underlying40
 have hu37 := Try.underlying37
 have HR2 := Aside0.mk hr2
 have HC2 := Aside0.mk hc2
 clear hr2 hc2
 have HB := Aside0.mk (Below.refl w.heap.size w)
 have H := h
 unfold armadalaw04_JournalRow.f at H
 clear h
 have HC4 := Aside0.mk H
 clear H
 go_enter Try.func5, Try.ntmps5
 go_upto_region 1 with (fail)
 go_cut [42] (fun v42 wc => ∃ (kq : Nat) (x42_3 : Bool), v42 = .bool x42_3 ∧ Aside0 (armadalaw04_JournalRow.j0 kq a0 a1 l2 x42_3 = some true) ∧ Aside0 (kq ≤ k) ∧ Aside0 (Below w.heap.size w wc))
 case first =>
  have H := HC4.out
  clear HC4
  by_cases c5 : a0 < 2
  ·rw [if_pos c5] at H
   have c5b0 : decide (a0 < 2) = true := decide_eq_true c5
   clear c5
   (first | rw [c5b0] | (simp only [i64_w, i32_w]; rw [c5b0]) | skip)
   have H' := Aside0.mk H
   clear H
   go_wp2
   go_meet
   case rel => exact ⟨_, (true), eY, H', ⟨by first | omega | exact Nat.le_refl _⟩, ⟨qH⟩⟩
  ·rw [if_neg c5] at H
   have c5b0 : decide (a0 < 2) = false := decide_eq_false c5
   clear c5
   (first | rw [c5b0] | (simp only [i64_w, i32_w]; rw [c5b0]) | skip)
   by_cases c6 : a0 > 300
   ·rw [if_pos c6] at H
    have c6b0 : decide (300 < a0) = true := decide_eq_true c6
    clear c6
    have H' := Aside0.mk H
    clear H
    go_wp2
    go_meet
    case rel => exact ⟨_, (true), eY, H', ⟨by first | omega | exact Nat.le_refl _⟩, ⟨qH⟩⟩
   ·rw [if_neg c6] at H
    have c6b0 : decide (300 < a0) = false := decide_eq_false c6
    clear c6
    by_cases c7 : a1 < 0
    ·rw [if_pos c7] at H
     have c7b0 : decide (a1 < 0) = true := decide_eq_true c7
     clear c7
     have H' := Aside0.mk H
     clear H
     go_wp2
     go_meet
     case rel => exact ⟨_, (true), eY, H', ⟨by first | omega | exact Nat.le_refl _⟩, ⟨qH⟩⟩
    ·rw [if_neg c7] at H
     have c7b0 : decide (a1 < 0) = false := decide_eq_false c7
     clear c7
     by_cases c8 : a1 > 1073741824
     ·rw [if_pos c8] at H
      have c8b0 : decide (1073741824 < a1) = true := decide_eq_true c8
      clear c8
      have H' := Aside0.mk H
      clear H
      go_wp2
      go_meet
      case rel => exact ⟨_, (true), eY, H', ⟨by first | omega | exact Nat.le_refl _⟩, ⟨qH⟩⟩
     ·rw [if_neg c8] at H
      have c8b0 : decide (1073741824 < a1) = false := decide_eq_false c8
      clear c8
      have H' := Aside0.mk H
      clear H
      go_wp2
      go_meet
      case rel => exact ⟨_, (decide ((l2.length : Int) > 12)), eY, H', ⟨by first | omega | exact Nat.le_refl _⟩, ⟨qH⟩⟩
 case rest =>
  clear HC4
  (try clear p2)
  obtain ⟨kq, x42_3, rfl, HA, HJ3, HB⟩ := hcut
  cases kq with
  | zero => exact absurd HA.out (by simp [armadalaw04_JournalRow.j0])
  | succ kj3 =>
   have H := HA.out
   clear HA
   simp only [armadalaw04_JournalRow.j0] at H
   by_cases c9 : x42_3 = true
   ·subst c9
    rw [if_pos rfl] at H
    replace H := Option.bind_eq_some_iff.mp H
    obtain ⟨t553, A100, H⟩ := H
    try dsimp only at H
    have A10 := Aside0.mk A100
    clear A100
    obtain rfl := Option.some.inj H
    go_wp2_with (first | ((with_reducible refine gate_callee (f := 9) rfl ?_); refine gL (some 43) Try.func9 #[] ?_; (with_reducible refine (armadalaw04_live.calls kj3  true _ A10.out).mono ?_); rintro e w11 ⟨rfl, hb⟩; refine ⟨_, rfl, ?_⟩; have hz_ := zqA HB hb; replace hb := below_step hz_ hb; replace HB := zH HB hb; clear hz_; (try clear hb)))
    go_ret
    exact ⟨eX, qH⟩
   ·replace c9 := Bool.eq_false_iff.mpr c9
    subst c9
    rw [if_neg nF_] at H
    replace H := Option.bind_eq_some_iff.mp H
    obtain ⟨⟨t554, t557, t560⟩, A120, H⟩ := H
    try dsimp only at H
    have A12 := Aside0.mk A120
    clear A120
    replace H := Option.bind_eq_some_iff.mp H
    obtain ⟨⟨t563, t566⟩, A130, H⟩ := H
    try dsimp only at H
    have A13 := Aside0.mk A130
    clear A130
    replace H := Option.bind_eq_some_iff.mp H
    obtain ⟨⟨t567, t570, t573⟩, A140, H⟩ := H
    try dsimp only at H
    have A14 := Aside0.mk A140
    clear A140
    have HC15 := Aside0.mk H
    clear H
    go_upto_region 7 with (first | ((with_reducible refine gate_callee (f := 19) rfl ?_); refine gL (some 46) Try.func19 #[.int .i64 a0] ?_; (with_reducible refine (armadaref01_New.calls kj3 a0 t554 t557 t560 _ A12.out).mono ?_); rintro e w16 ⟨v555, v558, rfl, ho0, ho1, hb⟩; refine ⟨_, rfl, ?_⟩; have HO556 := Aside0.mk (Kd.R_lower ho0 (below_size qH)); have HO559 := Aside0.mk (Kd.R_lower ho1 (below_size qH)); replace HB := wH hb; (try clear hb); (try clear ho0); (try clear ho1)) | ((with_reducible refine gate_dst (N := 7) rfl ?_); (try (refine gate_guard (by rfl) ?_; dsimp only)); refine bE (N := 7) (cs := #[.slice none 0 0, .slice none 0 0]) (t := 25) ?_; intro gb561 hg w17 hbox hb; have hz_ := zqA HB hb; replace hb := below_step hz_ hb; replace HO556 := zR HO556 hb; replace HO559 := zR HO559 hb; have BK561 := Aside0.mk hbox; have GE561 := zG HB hz_ hg; replace HB := zH HB hb; clear hz_; clear hb hbox hg; obtain ⟨Ao18, co18, eo18⟩ := Kd.R_slice HO556.out; subst eo18; obtain ⟨hcz19_0, hcz19_1, hfz19_0, hfz19_1⟩ := e2_ BK561; obtain ⟨Ao20, co20, eo20⟩ := Kd.R_slice HO559.out; subst eo20) | ((with_reducible refine gate_dst (N := 9) rfl ?_); (try (refine gate_guard (by rfl) ?_; dsimp only)); refine bE (N := 9) (cs := #[.int .i64 0, .int .i64 0]) (t := 40) ?_; intro gb562 hg w21 hbox hb; have hz_ := zq2 HB gb561 (.slice Ao18 t554.length co18) (.slice Ao20 t557.length co20) (by repeat (first | (with_reducible first | exact Below.refl _ _ | apply yA_ | apply yN_ | apply yD_) | exact Below.refl _ _)) hb; replace hb := below_step hz_ hb; replace HO556 := zRF HO556 BK561 (by decide) hb; replace HO559 := zRF HO559 BK561 (by decide) hb; have BK562 := Aside0.mk hbox; have GE562 := zGF HB hz_ hg; have NB561_562 := zNF BK561 hz_ hg; have NB562_561 := zMF BK561 hz_ hg; replace BK561 := zBP BK561 hb; replace HB := zHF HB GE561 hb; clear hz_; clear hb hbox hg; obtain ⟨hnb22, hnc22⟩ := nn_ NB562_561; obtain ⟨hcz23_0, hcz23_1, hfz23_0, hfz23_1⟩ := e2_ BK562) | ((with_reducible refine gate_callee (f := 15) rfl ?_); refine gL (some 54) Try.func15 #[.agg #[.int .i64 0, .int .i64 a0], .int .i64 a1] ?_; (with_reducible refine (journal_Start.calls kj3 0 a0 a1 t563 t566 _ A13.out).mono ?_); rintro e w24 ⟨v564, rfl, ho0, hb⟩; refine ⟨_, rfl, ?_⟩; replace HO556 := Aside0.mk (Kd.R_below (qR (rF2 HO556.out BK562)) hb); replace HO559 := Aside0.mk (Kd.R_below (qR (rF2 HO559.out BK562)) hb); have HO565 := Aside0.mk (Kd.R_lower ho0 (below_size qH)); replace BK561 := wF BK561 hb; replace BK562 := wP2 BK562 hb; replace HB := wH hb; (try clear hb); (try clear ho0); obtain ⟨hcz25_0, hcz25_1, hfz25_0, hfz25_1⟩ := e2_ BK561; obtain ⟨Ao26, co26, eo26⟩ := Kd.R_slice HO565.out; subst eo26) | ((with_reducible refine gate_callee (f := 16) rfl ?_); refine gL (some 62) Try.func16 #[.agg #[.slice Ao18 t554.length co18, .slice Ao20 t557.length co20], .slice Ao26 t563.length co26, .int .i64 (t563.length : Int)] ?_; (with_reducible refine (disk_Run.calls kj3 (fun k_ => some k_ = (.slice Ao18 t554.length co18 : Value).ownBlock) _ _ t554 (fun k_ => some k_ = (.slice Ao20 t557.length co20 : Value).ownBlock) _ _ t557 _ _ t563 (t563.length : Int) t567 t570 t573 _ ?side1 ?side2 ?side3 ?side4 A14.out).mono ?_); (case side1 => exact Kd.R_V (Kd.R_tight rfl (Kd.R_types (Kd.R_types (Kd.R_apart' (Kd.R_apart' (HO556.out) (Kd.R_typed HO559.out) (by decide)) (Kd.R_typed HO565.out) (by decide)) BK561.out (by decide)) BK562.out (by decide)))); (case side2 => exact Kd.R_V (Kd.R_tight rfl (Kd.R_types (Kd.R_types (Kd.R_apart' (Kd.R_apart' (HO559.out) (Kd.R_typed HO556.out) (by decide)) (Kd.R_typed HO565.out) (by decide)) BK561.out (by decide)) BK562.out (by decide)))); (case side3 => exact qK (Kd.R_reads' HO565.out).2.2); (case side4 => exact (Kd.R_reads' HO565.out).2.1); rintro e w27 ⟨v568, v571, rfl, ho0, ho1, hb⟩; refine ⟨_, rfl, ?_⟩; have HO569 := Aside0.mk (Kd.V_lower (Kd.V_mono (ok' := fun k_ => some k_ ≠ (.slice Ao26 t563.length co26 : Value).ownBlock ∧ k_ ≠ gb561 ∧ k_ ≠ gb562) ho0 (fun k_ hk_ => ⟨Or.elim hk_ (fun hs_ => Or.elim hs_ (fun hs_ => ((Kd.R_types (Kd.R_types (Kd.R_apart' (Kd.R_apart' (HO556.out) (Kd.R_typed HO559.out) (by decide)) (Kd.R_typed HO565.out) (by decide)) BK561.out (by decide)) BK562.out (by decide)).1 k_ hs_.symm).1.1.2) (fun hs_ => ((Kd.R_types (Kd.R_types (Kd.R_apart' (Kd.R_apart' (HO559.out) (Kd.R_typed HO556.out) (by decide)) (Kd.R_typed HO565.out) (by decide)) BK561.out (by decide)) BK562.out (by decide)).1 k_ hs_.symm).1.1.2)) (fun hn_ => (Kd.fresh' (Kd.R_lt (qR HO565.out)) k_ hn_)), Or.elim hk_ (fun hs_ => Or.elim hs_ (fun hs_ => ((Kd.R_types (Kd.R_types (Kd.R_apart' (Kd.R_apart' (HO556.out) (Kd.R_typed HO559.out) (by decide)) (Kd.R_typed HO565.out) (by decide)) BK561.out (by decide)) BK562.out (by decide)).1 k_ hs_.symm).1.2) (fun hs_ => ((Kd.R_types (Kd.R_types (Kd.R_apart' (Kd.R_apart' (HO559.out) (Kd.R_typed HO556.out) (by decide)) (Kd.R_typed HO565.out) (by decide)) BK561.out (by decide)) BK562.out (by decide)).1 k_ hs_.symm).1.2)) (fun hn_ => (Kd.freshB (g := gb561) (o := .cells #[.slice Ao18 t554.length co18, .slice Ao20 t557.length co20] 25 (0, 0)) (qB BK561) k_ hn_)), Or.elim hk_ (fun hs_ => Or.elim hs_ (fun hs_ => ((Kd.R_types (Kd.R_types (Kd.R_apart' (Kd.R_apart' (HO556.out) (Kd.R_typed HO559.out) (by decide)) (Kd.R_typed HO565.out) (by decide)) BK561.out (by decide)) BK562.out (by decide)).1 k_ hs_.symm).2) (fun hs_ => ((Kd.R_types (Kd.R_types (Kd.R_apart' (Kd.R_apart' (HO559.out) (Kd.R_typed HO556.out) (by decide)) (Kd.R_typed HO565.out) (by decide)) BK561.out (by decide)) BK562.out (by decide)).1 k_ hs_.symm).2)) (fun hn_ => (Kd.freshB (g := gb562) (o := .cells #[.int .i64 0, .int .i64 a0] 40 (0, 0)) (qB BK562) k_ hn_))⟩)) (below_size qH)); have HO572 := Aside0.mk (Kd.V_lower (Kd.V_mono (ok' := fun k_ => some k_ ≠ (.slice Ao26 t563.length co26 : Value).ownBlock ∧ k_ ≠ gb561 ∧ k_ ≠ gb562) ho1 (fun k_ hk_ => ⟨Or.elim hk_ (fun hs_ => Or.elim hs_ (fun hs_ => ((Kd.R_types (Kd.R_types (Kd.R_apart' (Kd.R_apart' (HO556.out) (Kd.R_typed HO559.out) (by decide)) (Kd.R_typed HO565.out) (by decide)) BK561.out (by decide)) BK562.out (by decide)).1 k_ hs_.symm).1.1.2) (fun hs_ => ((Kd.R_types (Kd.R_types (Kd.R_apart' (Kd.R_apart' (HO559.out) (Kd.R_typed HO556.out) (by decide)) (Kd.R_typed HO565.out) (by decide)) BK561.out (by decide)) BK562.out (by decide)).1 k_ hs_.symm).1.1.2)) (fun hn_ => (Kd.fresh' (Kd.R_lt (qR HO565.out)) k_ hn_)), Or.elim hk_ (fun hs_ => Or.elim hs_ (fun hs_ => ((Kd.R_types (Kd.R_types (Kd.R_apart' (Kd.R_apart' (HO556.out) (Kd.R_typed HO559.out) (by decide)) (Kd.R_typed HO565.out) (by decide)) BK561.out (by decide)) BK562.out (by decide)).1 k_ hs_.symm).1.2) (fun hs_ => ((Kd.R_types (Kd.R_types (Kd.R_apart' (Kd.R_apart' (HO559.out) (Kd.R_typed HO556.out) (by decide)) (Kd.R_typed HO565.out) (by decide)) BK561.out (by decide)) BK562.out (by decide)).1 k_ hs_.symm).1.2)) (fun hn_ => (Kd.freshB (g := gb561) (o := .cells #[.slice Ao18 t554.length co18, .slice Ao20 t557.length co20] 25 (0, 0)) (qB BK561) k_ hn_)), Or.elim hk_ (fun hs_ => Or.elim hs_ (fun hs_ => ((Kd.R_types (Kd.R_types (Kd.R_apart' (Kd.R_apart' (HO556.out) (Kd.R_typed HO559.out) (by decide)) (Kd.R_typed HO565.out) (by decide)) BK561.out (by decide)) BK562.out (by decide)).1 k_ hs_.symm).2) (fun hs_ => ((Kd.R_types (Kd.R_types (Kd.R_apart' (Kd.R_apart' (HO559.out) (Kd.R_typed HO556.out) (by decide)) (Kd.R_typed HO565.out) (by decide)) BK561.out (by decide)) BK562.out (by decide)).1 k_ hs_.symm).2)) (fun hn_ => (Kd.freshB (g := gb562) (o := .cells #[.int .i64 0, .int .i64 a0] 40 (0, 0)) (qB BK562) k_ hn_))⟩)) (below_size qH)); replace BK561 := wB BK561 hb; replace BK562 := wB BK562 hb; replace HB := wH hb; (try clear hb); (try clear ho0); (try clear ho1); obtain ⟨Ao28, co28, eo28⟩ := Kd.V_slice HO569.out; subst eo28; obtain ⟨hcz29_0, hcz29_1, hfz29_0, hfz29_1⟩ := e2_ BK561; obtain ⟨Ao30, co30, eo30⟩ := Kd.V_slice HO572.out; subst eo30))
    (try simp only [Act.put, List.setIfInBounds_toArray, List.set_cons_zero, List.set_cons_succ])
    go_cut [70] (fun v70 wc => ∃ (kq : Nat) (x70_14 : Bool), v70 = .bool x70_14 ∧ Aside0 (armadalaw04_JournalRow.j1 kq a0 a1 l2 x70_14 t567 t570 0 a0 = some true) ∧ Aside0 (kq ≤ kj3) ∧ Aside0 (Kd.V Kd.string 9 wc w.heap.size (fun k_ => k_ ≠ gb561 ∧ k_ ≠ gb562) (.slice Ao28 t567.length co28) t567) ∧ Aside0 (Kd.V k29 29 wc w.heap.size (fun k_ => k_ ≠ gb561 ∧ k_ ≠ gb562) (.slice Ao30 t570.length co30) t570) ∧ Aside0 (wc.heap[gb561]? = some (.cells #[(.slice Ao28 t567.length co28), (.slice Ao30 t570.length co30)] 25 (0, 0))) ∧ Aside0 (wc.heap[gb562]? = some (.cells #[.int .i64 0, .int .i64 a0] 40 (0, 0))) ∧ Aside0 (Below w.heap.size w wc))
    case first =>
     have H := HC15.out
     clear HC15
     by_cases c31 : t566 = 0
     ·rw [if_pos c31] at H
      have c31b0 : (t566 == 0) = true := beq_iff_eq.mpr c31
      have c31b1 : (t566 != 0) = false := bne_eq_false_iff_eq.mpr c31
      clear c31
      (first | rw [c31b0] | (simp only [i64_w, i32_w]; rw [c31b0]) | skip)
      have H' := Aside0.mk H
      clear H
      go_wp2
      go_meet
      case rel => exact ⟨_, ((t573 != 0)), eY, H', ⟨by have := HJ3.out; first | omega | exact Nat.le_refl _⟩, ⟨by (with_reducible repeat (first | apply Kd.V_alloc | apply Kd.V_drewN | apply Kd.V_drew)); exact Kd.V_mono (vG2 (g := gb561) HO569.out (fun _ hk => hk.2.1)) (fun _ hk => ⟨hk.1.2.1, hk.1.2.2⟩)⟩, ⟨by (with_reducible repeat (first | apply Kd.V_alloc | apply Kd.V_drewN | apply Kd.V_drew)); exact Kd.V_mono (vG2 (g := gb561) HO572.out (fun _ hk => hk.2.1)) (fun _ hk => ⟨hk.1.2.1, hk.1.2.2⟩)⟩, ⟨by (with_reducible repeat (first | apply xN_ | apply xD_ | apply xA_)); refine blk_put (cs := #[.slice Ao28 t567.length co28, .slice Ao20 t557.length co20]) ?_ 1 _ rfl; refine blk_put (cs := #[.slice Ao18 t554.length co18, .slice Ao20 t557.length co20]) ?_ 0 _ rfl; (with_reducible repeat (first | apply xN_ | apply xD_ | apply xA_)); exact BK561.out⟩, ⟨by (with_reducible repeat (first | apply xN_ | apply xD_ | apply xA_)); refine xR_ ?_ NB562_561.out _; refine xR_ ?_ NB562_561.out _; (with_reducible repeat (first | apply xN_ | apply xD_ | apply xA_)); exact BK562.out⟩, ⟨qH⟩⟩
     ·rw [if_neg c31] at H
      have c31b0 : (t566 == 0) = false := beq_eq_false_iff_ne.mpr c31
      have c31b1 : (t566 != 0) = true := bne_iff_ne.mpr c31
      (first | rw [c31b0] | (simp only [i64_w, i32_w]; rw [c31b0]) | skip)
      have H' := Aside0.mk H
      clear H
      go_wp2
      go_meet
      case rel => exact ⟨_, (true), eY, H', ⟨by have := HJ3.out; first | omega | exact Nat.le_refl _⟩, ⟨by (with_reducible repeat (first | apply Kd.V_alloc | apply Kd.V_drewN | apply Kd.V_drew)); exact Kd.V_mono (vG2 (g := gb561) HO569.out (fun _ hk => hk.2.1)) (fun _ hk => ⟨hk.1.2.1, hk.1.2.2⟩)⟩, ⟨by (with_reducible repeat (first | apply Kd.V_alloc | apply Kd.V_drewN | apply Kd.V_drew)); exact Kd.V_mono (vG2 (g := gb561) HO572.out (fun _ hk => hk.2.1)) (fun _ hk => ⟨hk.1.2.1, hk.1.2.2⟩)⟩, ⟨by (with_reducible repeat (first | apply xN_ | apply xD_ | apply xA_)); refine blk_put (cs := #[.slice Ao28 t567.length co28, .slice Ao20 t557.length co20]) ?_ 1 _ rfl; refine blk_put (cs := #[.slice Ao18 t554.length co18, .slice Ao20 t557.length co20]) ?_ 0 _ rfl; (with_reducible repeat (first | apply xN_ | apply xD_ | apply xA_)); exact BK561.out⟩, ⟨by (with_reducible repeat (first | apply xN_ | apply xD_ | apply xA_)); refine xR_ ?_ NB562_561.out _; refine xR_ ?_ NB562_561.out _; (with_reducible repeat (first | apply xN_ | apply xD_ | apply xA_)); exact BK562.out⟩, ⟨qH⟩⟩
    case rest =>
     clear HC15
     (try clear p2); (try clear c9); (try clear hcz19_0); (try clear hcz19_1); (try clear hcz23_0); (try clear hcz23_1); (try clear hcz25_0); (try clear hcz25_1)
     (try clear hcz29_0); (try clear hcz29_1); (try clear hfz19_0); (try clear hfz19_1); (try clear hfz23_0); (try clear hfz23_1); (try clear hfz25_0); (try clear hfz25_1)
     (try clear hfz29_0); (try clear hfz29_1); (try clear p2)
     obtain ⟨kq, x70_14, rfl, HA, HJ14, HO_562000, HO_562001, BK561, BK562, HB⟩ := hcut
     cases kq with
     | zero => exact absurd HA.out (by simp [armadalaw04_JournalRow.j1])
     | succ kj14 =>
      have H := HA.out
      clear HA
      simp only [armadalaw04_JournalRow.j1] at H
      by_cases c32 : x70_14 = true
      ·subst c32
       rw [if_pos rfl] at H
       exact absurd H (by simp)
      ·replace c32 := Bool.eq_false_iff.mpr c32
       subst c32
       rw [if_neg nF_] at H
       have H' := Aside0.mk H
       clear H
       go_wp2
       go_loopg [13, 14] kj14 (fun kq v13 v14 w' => ∃ (x13_3 : List ByteArray) (x14_3 : Int) (x562000_3 : List ByteArray) (x562001_3 : List (S29)) (u562000 : Value) (u562001 : Value), v14 = .int .i64 x14_3 ∧ Aside0 (armadalaw04_JournalRow.l0 kq a0 a1 l2 x13_3 x14_3 x562000_3 x562001_3 0 a0 = some true) ∧ Aside0 (kq ≤ kj14) ∧ Aside0 (Kd.R Kd.string 9 w' w.heap.size (fun _ => True) v13 x13_3) ∧ Aside0 (Kd.V Kd.string 9 w' w.heap.size (fun k_ => some k_ ≠ (v13 : Value).ownBlock ∧ k_ ≠ gb561 ∧ k_ ≠ gb562) u562000 x562000_3) ∧ Aside0 (Kd.V k29 29 w' w.heap.size (fun k_ => some k_ ≠ (v13 : Value).ownBlock ∧ k_ ≠ gb561 ∧ k_ ≠ gb562) u562001 x562001_3) ∧ Aside0 (w'.heap[gb561]? = some (.cells #[u562000, u562001] 25 (0, 0))) ∧ Aside0 (w'.heap[gb562]? = some (.cells #[.int .i64 0, .int .i64 a0] 40 (0, 0))) ∧ Aside0 (Below w.heap.size w w'))
       case atStart => exact ⟨(([] : List ByteArray)), (0), (t567), (t570), (.slice Ao28 t567.length co28), (.slice Ao30 t570.length co30), eY, H', ⟨Nat.le_refl _⟩, ⟨by first | exact Kd.R_nil _ _ _ _ _ | exact Kd.N_nil _ _ _ _ _ | exact Kd.V_nil _ _ _ _ _ | exact Kd.Q_nil _ _ _ _ _ | exact Kd.S_nil _ _ _ _ _⟩, ⟨by (with_reducible repeat (first | apply Kd.V_alloc | apply Kd.V_drewN | apply Kd.V_drew)); exact Kd.V_mono HO_562000.out (fun _ hk => ⟨(by simp [Value.ownBlock]), ⟨hk.1, hk.2⟩⟩)⟩, ⟨by (with_reducible repeat (first | apply Kd.V_alloc | apply Kd.V_drewN | apply Kd.V_drew)); exact Kd.V_mono HO_562001.out (fun _ hk => ⟨(by simp [Value.ownBlock]), ⟨hk.1, hk.2⟩⟩)⟩, ⟨qB BK561⟩, ⟨qB BK562⟩, ⟨qH⟩⟩
       case round =>
        clear H'
        (try clear p2); (try clear c32); (try clear p2)
        obtain ⟨x13_3, x14_3, x562000_3, x562001_3, u562000, u562001, rfl, HA, HK3, HO_13, HO_562000, HO_562001, BK561, BK562, HB⟩ := hrel
        cases gk with
        | zero => exact absurd HA.out (by simp [armadalaw04_JournalRow.l0])
        | succ k3 =>
         have H := HA.out
         clear HA
         simp only [armadalaw04_JournalRow.l0] at H
         by_cases c33 : x14_3 < (l2.length : Int)
         ·rw [if_pos c33] at H
          have c33b0 : decide (x14_3 < (l2.length : Int)) = true := decide_eq_true c33
          clear c33
          by_cases c34 : 0 ≤ x14_3
          ·rw [if_pos c34] at H
           have c34b0 : decide (0 ≤ x14_3) = true := decide_eq_true c34
           clear c34
           by_cases c35 : ((rdOf ByteArray.empty l2 x14_3).size : Int) > 4096
           ·rw [if_pos c35] at H
            have c35b0 : decide (4096 < ((rdOf ByteArray.empty l2 x14_3).size : Int)) = true := decide_eq_true c35
            have c35b1 : decide (4096 < (rdOf ByteArray.empty l2 x14_3).size) = true := decide_eq_true (by omega)
            clear c35
            replace H := Option.bind_eq_some_iff.mp H
            obtain ⟨t584, A360, H⟩ := H
            try dsimp only at H
            have A36 := Aside0.mk A360
            clear A360
            obtain rfl := Option.some.inj H
            have p583 : 0 ≤ (x14_3 : Int) := of_decide_eq_true aS
            have q583 : x14_3 < (l2.length : Int) := of_decide_eq_true aS
            obtain ⟨ad583, e583, hx583_0⟩ := Kd.at_string HR2.out x14_3 p583 q583
            cases e583
            replace hx583_0 := (HB.out.cell (World.block_lt_of_cell? w _ hx583_0)).trans hx583_0
            replace p583 := eq_true p583
            replace q583 := eq_true q583
            go_wp2_with (first | ((with_reducible refine gate_callee (f := 9) rfl ?_); refine gL (some 83) Try.func9 #[] ?_; (with_reducible refine (armadalaw04_live.calls k3  true _ A36.out).mono ?_); rintro e w37 ⟨rfl, hb⟩; refine ⟨_, rfl, ?_⟩; have hz_ := zqA HB hb; replace hb := below_step hz_ hb; replace HO_13 := zR HO_13 hb; replace HO_562000 := zV HO_562000 hb; replace HO_562001 := zV HO_562001 hb; replace BK561 := zB BK561 hb; replace BK562 := zB BK562 hb; replace HB := zH HB hb; clear hz_; (try clear hb)))
            go_ret
            exact ⟨eX, qH⟩
           ·rw [if_neg c35] at H
            have c35b0 : decide (4096 < ((rdOf ByteArray.empty l2 x14_3).size : Int)) = false := decide_eq_false c35
            have c35b1 : decide (4096 < (rdOf ByteArray.empty l2 x14_3).size) = false := decide_eq_false (by omega)
            clear c35
            replace H := Option.bind_eq_some_iff.mp H
            obtain ⟨⟨t585, t586, t589, t590⟩, A380, H⟩ := H
            try dsimp only at H
            have A38 := Aside0.mk A380
            clear A380
            replace H := Option.bind_eq_some_iff.mp H
            obtain ⟨⟨t593, t596⟩, A390, H⟩ := H
            try dsimp only at H
            have A39 := Aside0.mk A390
            clear A390
            replace H := Option.bind_eq_some_iff.mp H
            obtain ⟨⟨t597, t600, t603⟩, A400, H⟩ := H
            try dsimp only at H
            have A40 := Aside0.mk A400
            clear A400
            replace H := Option.bind_eq_some_iff.mp H
            obtain ⟨t606, A410, H⟩ := H
            try dsimp only at H
            have A41 := Aside0.mk A410
            clear A410
            have HC42 := Aside0.mk H
            clear H
            have p583 : 0 ≤ (x14_3 : Int) := of_decide_eq_true aS
            have q583 : x14_3 < (l2.length : Int) := of_decide_eq_true aS
            obtain ⟨ad583, e583, hx583_0⟩ := Kd.at_string HR2.out x14_3 p583 q583
            cases e583
            replace hx583_0 := (HB.out.cell (World.block_lt_of_cell? w _ hx583_0)).trans hx583_0
            replace p583 := eq_true p583
            replace q583 := eq_true q583
            obtain ⟨hnb43, hnc43⟩ := nn_ NB561_562
            obtain ⟨hcz44_0, hcz44_1, hfz44_0, hfz44_1⟩ := e2_ BK561
            obtain ⟨hcz45_0, hcz45_1, hfz45_0, hfz45_1⟩ := e2_ BK562
            obtain ⟨Ao46, co46, eo46⟩ := Kd.V_slice HO_562000.out
            subst eo46
            obtain ⟨Ao47, co47, eo47⟩ := Kd.V_slice HO_562001.out
            subst eo47
            try go_wp2_with (first | ((with_reducible refine gate_callee (f := 11) rfl ?_); refine gL (some 87) Try.func11 #[.agg #[.slice Ao46 x562000_3.length co46, .slice Ao47 x562001_3.length co47], .agg #[.int .i64 0, .int .i64 a0]] ?_; (with_reducible refine (journal_Open.calls k3 _ _ x562000_3 _ _ x562001_3 0 a0 t585 t586 t589 t590 _ ?side1 ?side2 ?side3 ?side4 A38.out).mono ?_); (case side1 => exact qK (Kd.V_reads' HO_562000.out).2.2); (case side2 => exact (Kd.V_reads' HO_562000.out).2.1); (case side3 => exact qK (Kd.V_reads' HO_562001.out).2.2); (case side4 => exact (Kd.V_reads' HO_562001.out).2.1); rintro e w48 ⟨v587, rfl, ho0, hb⟩; refine ⟨_, rfl, ?_⟩; replace HO_562000 := Aside0.mk (Kd.V_elder' (qV HO_562000.out) (Kd.R_base ho0) hb); replace HO_562001 := Aside0.mk (Kd.V_elder' (qV HO_562001.out) (Kd.R_base ho0) hb); have HO588 := Aside0.mk (Kd.R_lower (Kd.R_new' ho0 (Kd.R_lt (qR HO_13.out))) (below_size qH)); replace BK561 := wB BK561 hb; replace BK562 := wB BK562 hb; replace HO_13 := Aside0.mk (Kd.R_elder' (qR HO_13.out) (Kd.R_base ho0) hb); replace HB := wH hb; (try clear hb); (try clear ho0)) | ((with_reducible refine gate_dst (N := 15) rfl ?_); (try (refine gate_guard (by rfl) ?_; dsimp only)); refine bE (N := 15) (cs := #[.int .i64 0, .slice none 0 0, .int .i64 0]) (t := 37) ?_; intro gb591 hg w49 hbox hb; have hz_ := zqA HB hb; replace hb := below_step hz_ hb; replace HO_13 := zR HO_13 hb; replace HO_562000 := zE HO_562000 hz_ hg hb; replace HO_562001 := zE HO_562001 hz_ hg hb; replace HO588 := zR HO588 hb; have BK591 := Aside0.mk hbox; have GE591 := zG HB hz_ hg; have NB561_591 := zN BK561 hz_ hg; have NB591_561 := zM BK561 hz_ hg; have NB562_591 := zN BK562 hz_ hg; have NB591_562 := zM BK562 hz_ hg; replace BK561 := zB BK561 hb; replace BK562 := zB BK562 hb; replace HB := zH HB hb; clear hz_; clear hb hbox hg; obtain ⟨hnb50, hnc50⟩ := nn_ NB591_561; obtain ⟨hnb51, hnc51⟩ := nn_ NB591_562; obtain ⟨hcz52_0, hcz52_1, hcz52_2, hfz52_0, hfz52_1, hfz52_2⟩ := e3_ BK591; obtain ⟨Ao53, co53, eo53⟩ := Kd.R_slice HO588.out; subst eo53))
            have n0_ : Aside0 (Kd.R Kd.string 9 (((w49.setCell ⟨gb591, 0, none⟩ (.int .i64 t585)).setCell ⟨gb591, 1, none⟩ (.slice Ao53 t586.length co53)).setCell ⟨gb591, 2, none⟩ (.int .i64 t589)) w.heap.size (fun k_ => some k_ ≠ (.slice Ao53 t586.length co53 : Value).ownBlock) u13 x13_3) := ⟨by (with_reducible repeat (first | apply Kd.R_alloc | apply Kd.R_drewN | apply Kd.R_drew)); exact Kd.R_mono (rG3 HO_13.out BK591) (fun _ hk => hk.1.2)⟩
            have n1_ : Aside0 (Kd.V Kd.string 9 (((w49.setCell ⟨gb591, 0, none⟩ (.int .i64 t585)).setCell ⟨gb591, 1, none⟩ (.slice Ao53 t586.length co53)).setCell ⟨gb591, 2, none⟩ (.int .i64 t589)) w.heap.size (fun k_ => some k_ ≠ (u13 : Value).ownBlock ∧ some k_ ≠ (.slice Ao53 t586.length co53 : Value).ownBlock ∧ k_ ≠ gb561 ∧ k_ ≠ gb562 ∧ k_ ≠ gb591) (.slice Ao46 x562000_3.length co46) x562000_3) := ⟨by (with_reducible repeat (first | apply Kd.V_alloc | apply Kd.V_drewN | apply Kd.V_drew)); exact Kd.V_mono (vG3 (g := gb591) HO_562000.out (fun _ hk => hk.2)) (fun _ hk => ⟨hk.1.1.1.1, ⟨hk.1.1.2, ⟨hk.1.1.1.2.1, ⟨hk.1.1.1.2.2, hk.1.2⟩⟩⟩⟩)⟩
            have n2_ : Aside0 (Kd.V k29 29 (((w49.setCell ⟨gb591, 0, none⟩ (.int .i64 t585)).setCell ⟨gb591, 1, none⟩ (.slice Ao53 t586.length co53)).setCell ⟨gb591, 2, none⟩ (.int .i64 t589)) w.heap.size (fun k_ => some k_ ≠ (u13 : Value).ownBlock ∧ some k_ ≠ (.slice Ao53 t586.length co53 : Value).ownBlock ∧ k_ ≠ gb561 ∧ k_ ≠ gb562 ∧ k_ ≠ gb591) (.slice Ao47 x562001_3.length co47) x562001_3) := ⟨by (with_reducible repeat (first | apply Kd.V_alloc | apply Kd.V_drewN | apply Kd.V_drew)); exact Kd.V_mono (vG3 (g := gb591) HO_562001.out (fun _ hk => hk.2)) (fun _ hk => ⟨hk.1.1.1.1, ⟨hk.1.1.2, ⟨hk.1.1.1.2.1, ⟨hk.1.1.1.2.2, hk.1.2⟩⟩⟩⟩)⟩
            have n3_ : Aside0 (Kd.R Kd.string 9 (((w49.setCell ⟨gb591, 0, none⟩ (.int .i64 t585)).setCell ⟨gb591, 1, none⟩ (.slice Ao53 t586.length co53)).setCell ⟨gb591, 2, none⟩ (.int .i64 t589)) w.heap.size (fun k_ => some k_ ≠ (u13 : Value).ownBlock) (.slice Ao53 t586.length co53) t586) := ⟨by (with_reducible repeat (first | apply Kd.R_alloc | apply Kd.R_drewN | apply Kd.R_drew)); exact Kd.R_mono (rG3 HO588.out BK591) (fun _ hk => hk.1.2)⟩
            have n4_ : Aside0 ((((w49.setCell ⟨gb591, 0, none⟩ (.int .i64 t585)).setCell ⟨gb591, 1, none⟩ (.slice Ao53 t586.length co53)).setCell ⟨gb591, 2, none⟩ (.int .i64 t589)).heap[gb561]? = some (.cells #[.slice Ao46 x562000_3.length co46, .slice Ao47 x562001_3.length co47] 25 (0, 0))) := ⟨by (with_reducible repeat (first | apply xN_ | apply xD_ | apply xA_)); refine xR_ ?_ NB561_591.out _; refine xR_ ?_ NB561_591.out _; refine xR_ ?_ NB561_591.out _; (with_reducible repeat (first | apply xN_ | apply xD_ | apply xA_)); exact BK561.out⟩
            have n5_ : Aside0 ((((w49.setCell ⟨gb591, 0, none⟩ (.int .i64 t585)).setCell ⟨gb591, 1, none⟩ (.slice Ao53 t586.length co53)).setCell ⟨gb591, 2, none⟩ (.int .i64 t589)).heap[gb562]? = some (.cells #[.int .i64 0, .int .i64 a0] 40 (0, 0))) := ⟨by (with_reducible repeat (first | apply xN_ | apply xD_ | apply xA_)); refine xR_ ?_ NB562_591.out _; refine xR_ ?_ NB562_591.out _; refine xR_ ?_ NB562_591.out _; (with_reducible repeat (first | apply xN_ | apply xD_ | apply xA_)); exact BK562.out⟩
            have n6_ : Aside0 ((((w49.setCell ⟨gb591, 0, none⟩ (.int .i64 t585)).setCell ⟨gb591, 1, none⟩ (.slice Ao53 t586.length co53)).setCell ⟨gb591, 2, none⟩ (.int .i64 t589)).heap[gb591]? = some (.cells #[.int .i64 t585, .slice Ao53 t586.length co53, .int .i64 t589] 37 (0, 0))) := ⟨by (with_reducible repeat (first | apply xN_ | apply xD_ | apply xA_)); refine blk_put (cs := #[.int .i64 t585, .slice Ao53 t586.length co53, .int .i64 0]) ?_ 2 _ rfl; refine blk_put (cs := #[.int .i64 t585, .slice none 0 0, .int .i64 0]) ?_ 1 _ rfl; refine blk_put (cs := #[.int .i64 0, .slice none 0 0, .int .i64 0]) ?_ 0 _ rfl; (with_reducible repeat (first | apply xN_ | apply xD_ | apply xA_)); exact BK591.out⟩
            have n7_ : Aside0 (Below w.heap.size w (((w49.setCell ⟨gb591, 0, none⟩ (.int .i64 t585)).setCell ⟨gb591, 1, none⟩ (.slice Ao53 t586.length co53)).setCell ⟨gb591, 2, none⟩ (.int .i64 t589))) := ⟨qH⟩
            (try clear HO_13)
            (try clear HO_562000)
            (try clear HO_562001)
            (try clear HO588)
            (try clear BK561)
            (try clear BK562)
            (try clear BK591)
            (try clear HB)
            generalize (((w49.setCell ⟨gb591, 0, none⟩ (.int .i64 t585)).setCell ⟨gb591, 1, none⟩ (.slice Ao53 t586.length co53)).setCell ⟨gb591, 2, none⟩ (.int .i64 t589)) = w54 at n0_ n1_ n2_ n3_ n4_ n5_ n6_ n7_ ⊢
            have HO_13 := n0_
            have HO_562000 := n1_
            have HO_562001 := n2_
            have HO588 := n3_
            have BK561 := n4_
            have BK562 := n5_
            have BK591 := n6_
            have HB := n7_
            clear n0_ n1_ n2_ n3_ n4_ n5_ n6_ n7_
            replace HO_13 := Aside0.mk (Kd.R_drew HO_13.out)
            replace HO_562000 := Aside0.mk (Kd.V_drew HO_562000.out)
            replace HO_562001 := Aside0.mk (Kd.V_drew HO_562001.out)
            replace HO588 := Aside0.mk (Kd.R_drew HO588.out)
            replace BK561 := Aside0.mk (xD_ BK561.out)
            replace BK562 := Aside0.mk (xD_ BK562.out)
            replace BK591 := Aside0.mk (xD_ BK591.out)
            replace HB := Aside0.mk (yD_ HB.out)
            have p592 : 0 ≤ (x14_3 : Int) := of_decide_eq_true aS
            have q592 : x14_3 < (l2.length : Int) := of_decide_eq_true aS
            obtain ⟨ad592, e592, hx592_0⟩ := Kd.at_string HR2.out x14_3 p592 q592
            have hw592_0 := hx592_0
            obtain rfl : ad583 = ad592 := (by injection e592)
            replace hx592_0 := (HB.out.cell (World.block_lt_of_cell? w _ hx592_0)).trans hx592_0
            replace p592 := eq_true p592
            replace q592 := eq_true q592
            refine start_ (n := 12) (S := fun w' => w'.cell? ⟨gb562, 0, none⟩ = some (.int .i64 0) ∧ w'.cell? ⟨gb562, 1, none⟩ = some (.int .i64 a0) ∧ w'.cell? ⟨gb591, 0, none⟩ = some (.int .i64 t585) ∧ w'.cell? ⟨gb591, 1, none⟩ = some (.slice Ao53 t586.length co53) ∧ w'.cell? ⟨gb591, 2, none⟩ = some (.int .i64 t589) ∧ w'.cell? (ad583.add (x14_3).toNat) = some (.string (rdOf ByteArray.empty l2 x14_3))) (ds := []) #[F_,F_,F_,F_,F_,F_,F_,F_,F_,F_,F_,F_] (by kernel_rfl) rfl rfl ⟨c0_ BK562, c1_ BK562, c0_ BK591, c1_ BK591, c2_ BK591, ((HB.out.cell (World.block_lt_of_cell? w _ hw592_0)).trans hw592_0)⟩ (fun hHeld => ?_); refine with_tabW armadalaw04_JournalRow.tab16 armadalaw04_JournalRow.bits16 (fun HT_ HW_ => ?_)
            generalize w54.drew = w55 at HO_13 HO_562000 HO_562001 HO588 BK561 BK562 BK591 HB hx592_0 hHeld ⊢
            refine pU 2 (some 93) #[F_,F_,T_,F_,F_,F_,F_,F_,F_,F_,F_,F_] HT_ ?_
            refine pU 3 (some 94) #[F_,F_,T_,T_,F_,F_,F_,F_,F_,F_,F_,F_] HT_ ?_
            refine pU 4 (some 95) #[F_,F_,T_,T_,T_,F_,F_,F_,F_,F_,F_,F_] HT_ ?_
            refine tK 0 (some 91) #[T_,F_,T_,T_,T_,F_,F_,F_,F_,F_,F_,F_] HT_ HW_ hHeld ?_
            refine tK 1 (some 92) #[T_,T_,T_,T_,T_,F_,F_,F_,F_,F_,F_,F_] HT_ HW_ hHeld ?_
            refine tK 5 (some 96) #[T_,T_,T_,T_,T_,T_,F_,F_,F_,F_,F_,F_] HT_ HW_ hHeld ?_
            refine oN 6 (some 97) #[T_,T_,T_,T_,T_,T_,T_,F_,F_,F_,F_,F_] HT_ (fun K hK => ?_)
            refine gO Try.func20 #[.agg #[.int .i64 0, .int .i64 a0], .agg #[.int .i64 t585, .slice Ao53 t586.length co53, .int .i64 t589], .string (rdOf ByteArray.empty l2 x14_3)] ?_
            with_reducible refine (journal_Add.calls k3 0 a0 t585 _ _ t586 t589 (rdOf ByteArray.empty l2 x14_3) t593 t596 _ ?side1 ?side2 A39.out).mono ?_
            (case side1 => exact qK (Kd.R_reads' HO588.out).2.2)
            (case side2 => exact (Kd.R_reads' HO588.out).2.1)
            rintro e w56 ⟨v594, rfl, ho0, hb⟩
            refine ⟨_, rfl, ?_⟩
            replace HO_13 := Aside0.mk (Kd.R_below (qR HO_13.out) hb)
            replace HO_562000 := Aside0.mk (Kd.V_elder' (qV HO_562000.out) (Kd.R_base ho0) hb)
            replace HO_562001 := Aside0.mk (Kd.V_elder' (qV HO_562001.out) (Kd.R_base ho0) hb)
            replace HO588 := Aside0.mk (Kd.R_below (qR HO588.out) hb)
            have HO595 := Aside0.mk (Kd.R_lower ho0 (below_size qH))
            replace BK561 := wB BK561 hb
            replace BK562 := wB BK562 hb
            replace BK591 := wB BK591 hb
            replace HB := wH hb
            (try clear hb)
            (try clear hb2)
            (try clear hk)
            (try clear hi)
            (try clear ho0)
            refine hK.out _ _ ⟨c0_ BK562, c1_ BK562, c0_ BK591, c1_ BK591, c2_ BK591, ((HB.out.cell (World.block_lt_of_cell? w _ hw592_0)).trans hw592_0)⟩ (fun hHeld => ?_)
            clear hK K
            refine nS (some 97) ?_
            refine pU 7 (some 90) #[T_,T_,T_,T_,T_,T_,T_,T_,F_,F_,F_,F_] HT_ ?_
            refine pU 8 (some 98) #[T_,T_,T_,T_,T_,T_,T_,T_,T_,F_,F_,F_] HT_ ?_
            refine pU 9 (some 99) #[T_,T_,T_,T_,T_,T_,T_,T_,T_,T_,F_,F_] HT_ ?_
            refine pU 10 (some 17) #[T_,T_,T_,T_,T_,T_,T_,T_,T_,T_,T_,F_] HT_ ?_
            refine pU 11 (some 18) #[T_,T_,T_,T_,T_,T_,T_,T_,T_,T_,T_,T_] HT_ ?_
            refine done_ (done_of HT_.out (by kernel_rfl)) ?_
            obtain ⟨hcz57_0, hcz57_1, hfz57_0, hfz57_1⟩ := e2_ BK561
            obtain ⟨Ao58, co58, eo58⟩ := Kd.R_slice HO595.out
            subst eo58
            try go_wp2_with (first | ((with_reducible refine gate_callee (f := 16) rfl ?_); refine gL (some 105) Try.func16 #[.agg #[.slice Ao46 x562000_3.length co46, .slice Ao47 x562001_3.length co47], .slice Ao58 t593.length co58, .int .i64 (t593.length : Int)] ?_; (with_reducible refine (disk_Run.calls k3 (fun k_ => ((some k_ ≠ (u13 : Value).ownBlock ∧ (some k_ ≠ (.slice Ao53 t586.length co53 : Value).ownBlock ∧ (k_ ≠ gb561 ∧ (k_ ≠ gb562 ∧ k_ ≠ gb591)))) ∧ some k_ ≠ (.slice Ao58 t593.length co58 : Value).ownBlock)) _ _ x562000_3 (fun k_ => ((some k_ ≠ (u13 : Value).ownBlock ∧ (some k_ ≠ (.slice Ao53 t586.length co53 : Value).ownBlock ∧ (k_ ≠ gb561 ∧ (k_ ≠ gb562 ∧ k_ ≠ gb591)))) ∧ some k_ ≠ (.slice Ao58 t593.length co58 : Value).ownBlock)) _ _ x562001_3 _ _ t593 (t593.length : Int) t597 t600 t603 _ ?side1 ?side2 ?side3 ?side4 A40.out).mono ?_); (case side1 => exact HO_562000.out); (case side2 => exact HO_562001.out); (case side3 => exact qK (Kd.R_reads' HO595.out).2.2); (case side4 => exact (Kd.R_reads' HO595.out).2.1); rintro e w59 ⟨v598, v601, rfl, ho0, ho1, hb⟩; refine ⟨_, rfl, ?_⟩; replace HO_562000 := Aside0.mk (Kd.V_below (qV HO_562000.out) hb); replace HO_562001 := Aside0.mk (Kd.V_below (qV HO_562001.out) hb); have HO599 := Aside0.mk (Kd.V_lower (Kd.V_mono (ok' := fun k_ => some k_ ≠ (u13 : Value).ownBlock ∧ some k_ ≠ (.slice Ao53 t586.length co53 : Value).ownBlock ∧ some k_ ≠ (.slice Ao58 t593.length co58 : Value).ownBlock ∧ k_ ≠ gb561 ∧ k_ ≠ gb562 ∧ k_ ≠ gb591) ho0 (fun k_ hk_ => ⟨Or.elim hk_ (fun hs_ => Or.elim hs_ (fun hs_ => hs_.1.1) (fun hs_ => hs_.1.1)) (fun hn_ => (Kd.fresh' (Kd.R_lt (qR HO_13.out)) k_ hn_)), Or.elim hk_ (fun hs_ => Or.elim hs_ (fun hs_ => hs_.1.2.1) (fun hs_ => hs_.1.2.1)) (fun hn_ => (Kd.fresh' (Kd.R_lt (qR HO588.out)) k_ hn_)), Or.elim hk_ (fun hs_ => Or.elim hs_ (fun hs_ => hs_.2) (fun hs_ => hs_.2)) (fun hn_ => (Kd.fresh' (Kd.R_lt (qR HO595.out)) k_ hn_)), Or.elim hk_ (fun hs_ => Or.elim hs_ (fun hs_ => hs_.1.2.2.1) (fun hs_ => hs_.1.2.2.1)) (fun hn_ => (Kd.freshB (g := gb561) (o := .cells #[.slice Ao46 x562000_3.length co46, .slice Ao47 x562001_3.length co47] 25 (0, 0)) (qB BK561) k_ hn_)), Or.elim hk_ (fun hs_ => Or.elim hs_ (fun hs_ => hs_.1.2.2.2.1) (fun hs_ => hs_.1.2.2.2.1)) (fun hn_ => (Kd.freshB (g := gb562) (o := .cells #[.int .i64 0, .int .i64 a0] 40 (0, 0)) (qB BK562) k_ hn_)), Or.elim hk_ (fun hs_ => Or.elim hs_ (fun hs_ => hs_.1.2.2.2.2) (fun hs_ => hs_.1.2.2.2.2)) (fun hn_ => (Kd.freshB (g := gb591) (o := .cells #[.int .i64 t585, .slice Ao53 t586.length co53, .int .i64 t589] 37 (0, 0)) (qB BK591) k_ hn_))⟩)) (below_size qH)); have HO602 := Aside0.mk (Kd.V_lower (Kd.V_mono (ok' := fun k_ => some k_ ≠ (u13 : Value).ownBlock ∧ some k_ ≠ (.slice Ao53 t586.length co53 : Value).ownBlock ∧ some k_ ≠ (.slice Ao58 t593.length co58 : Value).ownBlock ∧ k_ ≠ gb561 ∧ k_ ≠ gb562 ∧ k_ ≠ gb591) ho1 (fun k_ hk_ => ⟨Or.elim hk_ (fun hs_ => Or.elim hs_ (fun hs_ => hs_.1.1) (fun hs_ => hs_.1.1)) (fun hn_ => (Kd.fresh' (Kd.R_lt (qR HO_13.out)) k_ hn_)), Or.elim hk_ (fun hs_ => Or.elim hs_ (fun hs_ => hs_.1.2.1) (fun hs_ => hs_.1.2.1)) (fun hn_ => (Kd.fresh' (Kd.R_lt (qR HO588.out)) k_ hn_)), Or.elim hk_ (fun hs_ => Or.elim hs_ (fun hs_ => hs_.2) (fun hs_ => hs_.2)) (fun hn_ => (Kd.fresh' (Kd.R_lt (qR HO595.out)) k_ hn_)), Or.elim hk_ (fun hs_ => Or.elim hs_ (fun hs_ => hs_.1.2.2.1) (fun hs_ => hs_.1.2.2.1)) (fun hn_ => (Kd.freshB (g := gb561) (o := .cells #[.slice Ao46 x562000_3.length co46, .slice Ao47 x562001_3.length co47] 25 (0, 0)) (qB BK561) k_ hn_)), Or.elim hk_ (fun hs_ => Or.elim hs_ (fun hs_ => hs_.1.2.2.2.1) (fun hs_ => hs_.1.2.2.2.1)) (fun hn_ => (Kd.freshB (g := gb562) (o := .cells #[.int .i64 0, .int .i64 a0] 40 (0, 0)) (qB BK562) k_ hn_)), Or.elim hk_ (fun hs_ => Or.elim hs_ (fun hs_ => hs_.1.2.2.2.2) (fun hs_ => hs_.1.2.2.2.2)) (fun hn_ => (Kd.freshB (g := gb591) (o := .cells #[.int .i64 t585, .slice Ao53 t586.length co53, .int .i64 t589] 37 (0, 0)) (qB BK591) k_ hn_))⟩)) (below_size qH)); replace HO_13 := Aside0.mk (Kd.R_below (qR HO_13.out) hb); replace HO588 := Aside0.mk (Kd.R_below (qR HO588.out) hb); replace HO595 := Aside0.mk (Kd.R_below (qR HO595.out) hb); replace BK561 := wB BK561 hb; replace BK562 := wB BK562 hb; replace BK591 := wB BK591 hb; replace HB := wH hb; (try clear hb); (try clear ho0); (try clear ho1)) | ((with_reducible refine gate_dst (N := 19) rfl ?_); (try (refine gate_guard (by rfl) ?_; dsimp only)); refine bE (N := 19) (cs := #[.slice none 0 0, .slice none 0 0]) (t := 25) ?_; intro gb604 hg w60 hbox hb; have hz_ := zqA HB hb; replace hb := below_step hz_ hb; replace HO_13 := zR HO_13 hb; replace HO_562000 := zE HO_562000 hz_ hg hb; replace HO_562001 := zE HO_562001 hz_ hg hb; replace HO588 := zR HO588 hb; replace HO595 := zR HO595 hb; replace HO599 := zE HO599 hz_ hg hb; replace HO602 := zE HO602 hz_ hg hb; have BK604 := Aside0.mk hbox; have GE604 := zG HB hz_ hg; have NB561_604 := zN BK561 hz_ hg; have NB604_561 := zM BK561 hz_ hg; have NB562_604 := zN BK562 hz_ hg; have NB604_562 := zM BK562 hz_ hg; have NB591_604 := zN BK591 hz_ hg; have NB604_591 := zM BK591 hz_ hg; replace BK561 := zB BK561 hb; replace BK562 := zB BK562 hb; replace BK591 := zB BK591 hb; replace HB := zH HB hb; clear hz_; clear hb hbox hg; obtain ⟨Ao61, co61, eo61⟩ := Kd.V_slice HO599.out; subst eo61; obtain ⟨hnb62, hnc62⟩ := nn_ NB604_561; obtain ⟨hnb63, hnc63⟩ := nn_ NB604_562; obtain ⟨hnb64, hnc64⟩ := nn_ NB604_591; obtain ⟨hcz65_0, hcz65_1, hfz65_0, hfz65_1⟩ := e2_ BK604; obtain ⟨Ao66, co66, eo66⟩ := Kd.V_slice HO602.out; subst eo66))
            have n0_ : Aside0 (Kd.R Kd.string 9 ((w60.setCell ⟨gb604, 0, none⟩ (.slice Ao61 t597.length co61)).setCell ⟨gb604, 1, none⟩ (.slice Ao66 t600.length co66)) w.heap.size (fun k_ => some k_ ≠ (.slice Ao53 t586.length co53 : Value).ownBlock) u13 x13_3) := ⟨by (with_reducible repeat (first | apply Kd.R_alloc | apply Kd.R_drewN | apply Kd.R_drew)); exact Kd.R_mono (rG2 HO_13.out BK604) (fun _ hk => hk.1)⟩
            have n1_ : Aside0 (Kd.V Kd.string 9 ((w60.setCell ⟨gb604, 0, none⟩ (.slice Ao61 t597.length co61)).setCell ⟨gb604, 1, none⟩ (.slice Ao66 t600.length co66)) w.heap.size (fun k_ => some k_ ≠ (u13 : Value).ownBlock ∧ some k_ ≠ (.slice Ao53 t586.length co53 : Value).ownBlock ∧ some k_ ≠ (.slice Ao58 t593.length co58 : Value).ownBlock ∧ k_ ≠ gb561 ∧ k_ ≠ gb562 ∧ k_ ≠ gb591 ∧ k_ ≠ gb604) (.slice Ao46 x562000_3.length co46) x562000_3) := ⟨by (with_reducible repeat (first | apply Kd.V_alloc | apply Kd.V_drewN | apply Kd.V_drew)); exact Kd.V_mono (vG2 (g := gb604) HO_562000.out (fun _ hk => hk.2)) (fun _ hk => ⟨hk.1.1.1.1, ⟨hk.1.1.1.2.1, ⟨hk.1.1.2, ⟨hk.1.1.1.2.2.1, ⟨hk.1.1.1.2.2.2.1, ⟨hk.1.1.1.2.2.2.2, hk.1.2⟩⟩⟩⟩⟩⟩)⟩
            have n2_ : Aside0 (Kd.V k29 29 ((w60.setCell ⟨gb604, 0, none⟩ (.slice Ao61 t597.length co61)).setCell ⟨gb604, 1, none⟩ (.slice Ao66 t600.length co66)) w.heap.size (fun k_ => some k_ ≠ (u13 : Value).ownBlock ∧ some k_ ≠ (.slice Ao53 t586.length co53 : Value).ownBlock ∧ some k_ ≠ (.slice Ao58 t593.length co58 : Value).ownBlock ∧ k_ ≠ gb561 ∧ k_ ≠ gb562 ∧ k_ ≠ gb591 ∧ k_ ≠ gb604) (.slice Ao47 x562001_3.length co47) x562001_3) := ⟨by (with_reducible repeat (first | apply Kd.V_alloc | apply Kd.V_drewN | apply Kd.V_drew)); exact Kd.V_mono (vG2 (g := gb604) HO_562001.out (fun _ hk => hk.2)) (fun _ hk => ⟨hk.1.1.1.1, ⟨hk.1.1.1.2.1, ⟨hk.1.1.2, ⟨hk.1.1.1.2.2.1, ⟨hk.1.1.1.2.2.2.1, ⟨hk.1.1.1.2.2.2.2, hk.1.2⟩⟩⟩⟩⟩⟩)⟩
            have n3_ : Aside0 (Kd.R Kd.string 9 ((w60.setCell ⟨gb604, 0, none⟩ (.slice Ao61 t597.length co61)).setCell ⟨gb604, 1, none⟩ (.slice Ao66 t600.length co66)) w.heap.size (fun k_ => some k_ ≠ (u13 : Value).ownBlock) (.slice Ao53 t586.length co53) t586) := ⟨by (with_reducible repeat (first | apply Kd.R_alloc | apply Kd.R_drewN | apply Kd.R_drew)); exact Kd.R_mono (rG2 HO588.out BK604) (fun _ hk => hk.1)⟩
            have n4_ : Aside0 (Kd.R k85 85 ((w60.setCell ⟨gb604, 0, none⟩ (.slice Ao61 t597.length co61)).setCell ⟨gb604, 1, none⟩ (.slice Ao66 t600.length co66)) w.heap.size (fun _ => True) (.slice Ao58 t593.length co58) t593) := ⟨by (with_reducible repeat (first | apply Kd.R_alloc | apply Kd.R_drewN | apply Kd.R_drew)); exact Kd.R_mono (rG2 HO595.out BK604) (fun _ hk => trivial)⟩
            have n5_ : Aside0 (Kd.V Kd.string 9 ((w60.setCell ⟨gb604, 0, none⟩ (.slice Ao61 t597.length co61)).setCell ⟨gb604, 1, none⟩ (.slice Ao66 t600.length co66)) w.heap.size (fun k_ => some k_ ≠ (u13 : Value).ownBlock ∧ some k_ ≠ (.slice Ao53 t586.length co53 : Value).ownBlock ∧ some k_ ≠ (.slice Ao58 t593.length co58 : Value).ownBlock ∧ k_ ≠ gb561 ∧ k_ ≠ gb562 ∧ k_ ≠ gb591 ∧ k_ ≠ gb604) (.slice Ao61 t597.length co61) t597) := ⟨by (with_reducible repeat (first | apply Kd.V_alloc | apply Kd.V_drewN | apply Kd.V_drew)); exact Kd.V_mono (vG2 (g := gb604) HO599.out (fun _ hk => hk.2)) (fun _ hk => ⟨hk.1.1.1, ⟨hk.1.1.2.1, ⟨hk.1.1.2.2.1, ⟨hk.1.1.2.2.2.1, ⟨hk.1.1.2.2.2.2.1, ⟨hk.1.1.2.2.2.2.2, hk.1.2⟩⟩⟩⟩⟩⟩)⟩
            have n6_ : Aside0 (Kd.V k29 29 ((w60.setCell ⟨gb604, 0, none⟩ (.slice Ao61 t597.length co61)).setCell ⟨gb604, 1, none⟩ (.slice Ao66 t600.length co66)) w.heap.size (fun k_ => some k_ ≠ (u13 : Value).ownBlock ∧ some k_ ≠ (.slice Ao53 t586.length co53 : Value).ownBlock ∧ some k_ ≠ (.slice Ao58 t593.length co58 : Value).ownBlock ∧ k_ ≠ gb561 ∧ k_ ≠ gb562 ∧ k_ ≠ gb591 ∧ k_ ≠ gb604) (.slice Ao66 t600.length co66) t600) := ⟨by (with_reducible repeat (first | apply Kd.V_alloc | apply Kd.V_drewN | apply Kd.V_drew)); exact Kd.V_mono (vG2 (g := gb604) HO602.out (fun _ hk => hk.2)) (fun _ hk => ⟨hk.1.1.1, ⟨hk.1.1.2.1, ⟨hk.1.1.2.2.1, ⟨hk.1.1.2.2.2.1, ⟨hk.1.1.2.2.2.2.1, ⟨hk.1.1.2.2.2.2.2, hk.1.2⟩⟩⟩⟩⟩⟩)⟩
            have n7_ : Aside0 (((w60.setCell ⟨gb604, 0, none⟩ (.slice Ao61 t597.length co61)).setCell ⟨gb604, 1, none⟩ (.slice Ao66 t600.length co66)).heap[gb561]? = some (.cells #[.slice Ao46 x562000_3.length co46, .slice Ao47 x562001_3.length co47] 25 (0, 0))) := ⟨by (with_reducible repeat (first | apply xN_ | apply xD_ | apply xA_)); refine xR_ ?_ NB561_604.out _; refine xR_ ?_ NB561_604.out _; (with_reducible repeat (first | apply xN_ | apply xD_ | apply xA_)); exact BK561.out⟩
            have n8_ : Aside0 (((w60.setCell ⟨gb604, 0, none⟩ (.slice Ao61 t597.length co61)).setCell ⟨gb604, 1, none⟩ (.slice Ao66 t600.length co66)).heap[gb562]? = some (.cells #[.int .i64 0, .int .i64 a0] 40 (0, 0))) := ⟨by (with_reducible repeat (first | apply xN_ | apply xD_ | apply xA_)); refine xR_ ?_ NB562_604.out _; refine xR_ ?_ NB562_604.out _; (with_reducible repeat (first | apply xN_ | apply xD_ | apply xA_)); exact BK562.out⟩
            have n9_ : Aside0 (((w60.setCell ⟨gb604, 0, none⟩ (.slice Ao61 t597.length co61)).setCell ⟨gb604, 1, none⟩ (.slice Ao66 t600.length co66)).heap[gb591]? = some (.cells #[.int .i64 t585, .slice Ao53 t586.length co53, .int .i64 t589] 37 (0, 0))) := ⟨by (with_reducible repeat (first | apply xN_ | apply xD_ | apply xA_)); refine xR_ ?_ NB591_604.out _; refine xR_ ?_ NB591_604.out _; (with_reducible repeat (first | apply xN_ | apply xD_ | apply xA_)); exact BK591.out⟩
            have n10_ : Aside0 (((w60.setCell ⟨gb604, 0, none⟩ (.slice Ao61 t597.length co61)).setCell ⟨gb604, 1, none⟩ (.slice Ao66 t600.length co66)).heap[gb604]? = some (.cells #[.slice Ao61 t597.length co61, .slice Ao66 t600.length co66] 25 (0, 0))) := ⟨by (with_reducible repeat (first | apply xN_ | apply xD_ | apply xA_)); refine blk_put (cs := #[.slice Ao61 t597.length co61, .slice none 0 0]) ?_ 1 _ rfl; refine blk_put (cs := #[.slice none 0 0, .slice none 0 0]) ?_ 0 _ rfl; (with_reducible repeat (first | apply xN_ | apply xD_ | apply xA_)); exact BK604.out⟩
            have n11_ : Aside0 (Below w.heap.size w ((w60.setCell ⟨gb604, 0, none⟩ (.slice Ao61 t597.length co61)).setCell ⟨gb604, 1, none⟩ (.slice Ao66 t600.length co66))) := ⟨qH⟩
            (try clear HO_13)
            (try clear HO_562000)
            (try clear HO_562001)
            (try clear HO588)
            (try clear HO595)
            (try clear HO599)
            (try clear HO602)
            (try clear BK561)
            (try clear BK562)
            (try clear BK591)
            (try clear BK604)
            (try clear HB)
            generalize ((w60.setCell ⟨gb604, 0, none⟩ (.slice Ao61 t597.length co61)).setCell ⟨gb604, 1, none⟩ (.slice Ao66 t600.length co66)) = w67 at n0_ n1_ n2_ n3_ n4_ n5_ n6_ n7_ n8_ n9_ n10_ n11_ ⊢
            have HO_13 := n0_
            have HO_562000 := n1_
            have HO_562001 := n2_
            have HO588 := n3_
            have HO595 := n4_
            have HO599 := n5_
            have HO602 := n6_
            have BK561 := n7_
            have BK562 := n8_
            have BK591 := n9_
            have BK604 := n10_
            have HB := n11_
            clear n0_ n1_ n2_ n3_ n4_ n5_ n6_ n7_ n8_ n9_ n10_ n11_
            replace HO_13 := Aside0.mk (Kd.R_drew HO_13.out)
            replace HO_562000 := Aside0.mk (Kd.V_drew HO_562000.out)
            replace HO_562001 := Aside0.mk (Kd.V_drew HO_562001.out)
            replace HO588 := Aside0.mk (Kd.R_drew HO588.out)
            replace HO595 := Aside0.mk (Kd.R_drew HO595.out)
            replace HO599 := Aside0.mk (Kd.V_drew HO599.out)
            replace HO602 := Aside0.mk (Kd.V_drew HO602.out)
            replace BK561 := Aside0.mk (xD_ BK561.out)
            replace BK562 := Aside0.mk (xD_ BK562.out)
            replace BK591 := Aside0.mk (xD_ BK591.out)
            replace BK604 := Aside0.mk (xD_ BK604.out)
            replace HB := Aside0.mk (yD_ HB.out)
            have p605 : 0 ≤ (x14_3 : Int) := of_decide_eq_true aS
            have q605 : x14_3 < (l2.length : Int) := of_decide_eq_true aS
            obtain ⟨ad605, e605, hx605_0⟩ := Kd.at_string HR2.out x14_3 p605 q605
            have hw605_0 := hx605_0
            obtain rfl : ad583 = ad605 := (by injection e605)
            replace hx605_0 := (HB.out.cell (World.block_lt_of_cell? w _ hx605_0)).trans hx605_0
            replace p605 := eq_true p605
            replace q605 := eq_true q605
            refine start_ (n := 13) (S := fun w' => w'.cell? ⟨gb591, 0, none⟩ = some (.int .i64 t585) ∧ w'.cell? ⟨gb591, 1, none⟩ = some (.slice Ao53 t586.length co53) ∧ w'.cell? ⟨gb591, 2, none⟩ = some (.int .i64 t589) ∧ w'.cell? (ad583.add (x14_3).toNat) = some (.string (rdOf ByteArray.empty l2 x14_3))) (ds := []) #[F_,F_,F_,F_,F_,F_,F_,F_,F_,F_,F_,F_,F_] (by kernel_rfl) rfl rfl ⟨c0_ BK591, c1_ BK591, c2_ BK591, ((HB.out.cell (World.block_lt_of_cell? w _ hw605_0)).trans hw605_0)⟩ (fun hHeld => ?_); refine with_tabW armadalaw04_JournalRow.tab18 armadalaw04_JournalRow.bits18 (fun HT_ HW_ => ?_)
            generalize w67.drew = w68 at HO_13 HO_562000 HO_562001 HO588 HO595 HO599 HO602 BK561 BK562 BK591 BK604 HB hx605_0 hHeld ⊢
            refine pU 0 (some 108) #[T_,F_,F_,F_,F_,F_,F_,F_,F_,F_,F_,F_,F_] HT_ ?_
            refine pU 1 (some 109) #[T_,T_,F_,F_,F_,F_,F_,F_,F_,F_,F_,F_,F_] HT_ ?_
            refine pU 2 (some 110) #[T_,T_,T_,F_,F_,F_,F_,F_,F_,F_,F_,F_,F_] HT_ ?_
            refine pU 7 (some 115) #[T_,T_,T_,F_,F_,F_,F_,T_,F_,F_,F_,F_,F_] HT_ ?_
            refine pU 8 (some 116) #[T_,T_,T_,F_,F_,F_,F_,T_,T_,F_,F_,F_,F_] HT_ ?_
            refine tK 3 (some 111) #[T_,T_,T_,T_,F_,F_,F_,T_,T_,F_,F_,F_,F_] HT_ HW_ hHeld ?_
            refine pU 4 (some 112) #[T_,T_,T_,T_,T_,F_,F_,T_,T_,F_,F_,F_,F_] HT_ ?_
            refine tK 9 (some 117) #[T_,T_,T_,T_,T_,F_,F_,T_,T_,T_,F_,F_,F_] HT_ HW_ hHeld ?_
            refine pU 10 (some 118) #[T_,T_,T_,T_,T_,F_,F_,T_,T_,T_,T_,F_,F_] HT_ ?_
            refine oN 5 (some 113) #[T_,T_,T_,T_,T_,T_,F_,T_,T_,T_,T_,F_,F_] HT_ (fun K hK => ?_)
            refine gO Try.func21 #[.int .i64 ((rdOf ByteArray.empty l2 x14_3).size : Int)] ?_
            with_reducible refine (armadaref03_Count.calls ((rdOf ByteArray.empty l2 x14_3).size : Int) t606 _ A41.out).mono ?_
            rintro e w' ⟨rfl, ⟨nd, rfl⟩⟩
            refine ⟨_, rfl, ?_⟩
            refine hK.out _ _ ⟨c0_ BK591, c1_ BK591, c2_ BK591, ((HB.out.cell (World.block_lt_of_cell? w _ hw605_0)).trans hw605_0)⟩ (fun hHeld => ?_)
            clear hK K
            refine nS (some 113) ?_
            refine pU 6 (some 114) #[T_,T_,T_,T_,T_,T_,T_,T_,T_,T_,T_,F_,F_] HT_ ?_
            refine pU 11 (some 119) #[T_,T_,T_,T_,T_,T_,T_,T_,T_,T_,T_,T_,F_] HT_ ?_
            refine pU 12 (some 21) #[T_,T_,T_,T_,T_,T_,T_,T_,T_,T_,T_,T_,T_] HT_ ?_
            refine done_ (done_of HT_.out (by kernel_rfl)) ?_
            go_upto_region 19 with (fail)
            go_cut [138] (fun v138 wc => ∃ (kq : Nat) (x138_41 : Bool), v138 = .bool x138_41 ∧ Aside0 (armadalaw04_JournalRow.j3 kq a0 a1 l2 x13_3 x14_3 (decide ((wrap64 (1 + t606)) ≤ (wrap64 (a0 - t589)))) x138_41 0 a0 t597 t600 = some true) ∧ Aside0 (kq ≤ k3) ∧ Aside0 (Kd.R Kd.string 9 wc w.heap.size (fun k_ => some k_ ≠ ((.slice Ao53 t586.length co53) : Value).ownBlock) u13 x13_3) ∧ Aside0 (Kd.V Kd.string 9 wc w.heap.size (fun k_ => some k_ ≠ (u13 : Value).ownBlock ∧ some k_ ≠ ((.slice Ao53 t586.length co53) : Value).ownBlock ∧ k_ ≠ gb561 ∧ k_ ≠ gb562 ∧ k_ ≠ gb591 ∧ k_ ≠ gb604) (.slice Ao46 x562000_3.length co46) x562000_3) ∧ Aside0 (Kd.V k29 29 wc w.heap.size (fun k_ => some k_ ≠ (u13 : Value).ownBlock ∧ some k_ ≠ ((.slice Ao53 t586.length co53) : Value).ownBlock ∧ k_ ≠ gb561 ∧ k_ ≠ gb562 ∧ k_ ≠ gb591 ∧ k_ ≠ gb604) (.slice Ao47 x562001_3.length co47) x562001_3) ∧ Aside0 (Kd.R Kd.string 9 wc w.heap.size (fun k_ => some k_ ≠ (u13 : Value).ownBlock) (.slice Ao53 t586.length co53) t586) ∧ Aside0 (Kd.V Kd.string 9 wc w.heap.size (fun k_ => some k_ ≠ (u13 : Value).ownBlock ∧ some k_ ≠ ((.slice Ao53 t586.length co53) : Value).ownBlock ∧ k_ ≠ gb561 ∧ k_ ≠ gb562 ∧ k_ ≠ gb591 ∧ k_ ≠ gb604) (.slice Ao61 t597.length co61) t597) ∧ Aside0 (Kd.V k29 29 wc w.heap.size (fun k_ => some k_ ≠ (u13 : Value).ownBlock ∧ some k_ ≠ ((.slice Ao53 t586.length co53) : Value).ownBlock ∧ k_ ≠ gb561 ∧ k_ ≠ gb562 ∧ k_ ≠ gb591 ∧ k_ ≠ gb604) (.slice Ao66 t600.length co66) t600) ∧ Aside0 (wc.heap[gb561]? = some (.cells #[(.slice Ao46 x562000_3.length co46), (.slice Ao47 x562001_3.length co47)] 25 (0, 0))) ∧ Aside0 (wc.heap[gb562]? = some (.cells #[.int .i64 0, .int .i64 a0] 40 (0, 0))) ∧ Aside0 (wc.heap[gb591]? = some (.cells #[.int .i64 t585, (.slice Ao53 t586.length co53), .int .i64 t589] 37 (0, 0))) ∧ Aside0 (wc.heap[gb604]? = some (.cells #[(.slice Ao61 t597.length co61), (.slice Ao66 t600.length co66)] 25 (0, 0))) ∧ Aside0 (Below w.heap.size w wc))
            case first =>
             have H := HC42.out
             clear HC42
             by_cases c69 : t590 = 0
             ·rw [if_pos c69] at H
              have c69b0 : (t590 == 0) = true := beq_iff_eq.mpr c69
              have c69b1 : (t590 != 0) = false := bne_eq_false_iff_eq.mpr c69
              clear c69
              (first | rw [c69b0] | (simp only [i64_w, i32_w]; rw [c69b0]) | skip)
              by_cases c70 : t603 = 0
              ·rw [if_pos c70] at H
               have c70b0 : (t603 == 0) = true := beq_iff_eq.mpr c70
               have c70b1 : (t603 != 0) = false := bne_eq_false_iff_eq.mpr c70
               clear c70
               by_cases c71 : ((t596 == 0) != (decide ((wrap64 (1 + t606)) ≤ (wrap64 (a0 - t589))))) = true
               ·rw [if_pos c71] at H
                have c71b0 : ((t596 == 0) != (decide ((wrap64 (1 + t606)) ≤ (wrap64 (a0 - t589))))) = true := c71
                (try (have c71b1 : decide ((t596 == 0) = (decide ((wrap64 (1 + t606)) ≤ (wrap64 (a0 - t589))))) = false := by simpa using c71))
                (try (have c71b2 : ((t596 == 0) == (decide ((wrap64 (1 + t606)) ≤ (wrap64 (a0 - t589))))) = false := by simpa using c71))
                (try (have c71b3 : ¬ ((t596 == 0) = (decide ((wrap64 (1 + t606)) ≤ (wrap64 (a0 - t589))))) := by simpa using c71))
                clear c71
                have H' := Aside0.mk H
                clear H
                go_wp2
                go_meet
                case rel => exact ⟨_, (true), eY, H', ⟨by have := HJ3.out; have := HJ14.out; have := HK3.out; first | omega | exact Nat.le_refl _⟩, ⟨qR HO_13.out⟩, ⟨by (with_reducible repeat (first | apply Kd.V_alloc | apply Kd.V_drewN | apply Kd.V_drew)); exact Kd.V_mono HO_562000.out (fun _ hk => ⟨hk.1, ⟨hk.2.1, ⟨hk.2.2.2.1, ⟨hk.2.2.2.2.1, ⟨hk.2.2.2.2.2.1, hk.2.2.2.2.2.2⟩⟩⟩⟩⟩)⟩, ⟨by (with_reducible repeat (first | apply Kd.V_alloc | apply Kd.V_drewN | apply Kd.V_drew)); exact Kd.V_mono HO_562001.out (fun _ hk => ⟨hk.1, ⟨hk.2.1, ⟨hk.2.2.2.1, ⟨hk.2.2.2.2.1, ⟨hk.2.2.2.2.2.1, hk.2.2.2.2.2.2⟩⟩⟩⟩⟩)⟩, ⟨qR HO588.out⟩, ⟨by (with_reducible repeat (first | apply Kd.V_alloc | apply Kd.V_drewN | apply Kd.V_drew)); exact Kd.V_mono HO599.out (fun _ hk => ⟨hk.1, ⟨hk.2.1, ⟨hk.2.2.2.1, ⟨hk.2.2.2.2.1, ⟨hk.2.2.2.2.2.1, hk.2.2.2.2.2.2⟩⟩⟩⟩⟩)⟩, ⟨by (with_reducible repeat (first | apply Kd.V_alloc | apply Kd.V_drewN | apply Kd.V_drew)); exact Kd.V_mono HO602.out (fun _ hk => ⟨hk.1, ⟨hk.2.1, ⟨hk.2.2.2.1, ⟨hk.2.2.2.2.1, ⟨hk.2.2.2.2.2.1, hk.2.2.2.2.2.2⟩⟩⟩⟩⟩)⟩, ⟨qB BK561⟩, ⟨qB BK562⟩, ⟨qB BK591⟩, ⟨qB BK604⟩, ⟨qH⟩⟩
               ·rw [if_neg c71] at H
                have c71b0 : ((t596 == 0) != (decide ((wrap64 (1 + t606)) ≤ (wrap64 (a0 - t589))))) = false := by simpa using c71
                (try (have c71b1 : decide ((t596 == 0) = (decide ((wrap64 (1 + t606)) ≤ (wrap64 (a0 - t589))))) = true := by simpa using c71))
                (try (have c71b2 : ((t596 == 0) == (decide ((wrap64 (1 + t606)) ≤ (wrap64 (a0 - t589))))) = true := by simpa using c71))
                clear c71
                replace H := Option.bind_eq_some_iff.mp H
                obtain ⟨t607, A720, H⟩ := H
                try dsimp only at H
                have A72 := Aside0.mk A720
                clear A720
                have H' := Aside0.mk H
                clear H
                obtain ⟨hnb73, hnc73⟩ := nn_ NB591_561
                obtain ⟨hnb74, hnc74⟩ := nn_ NB591_562
                obtain ⟨hnb75, hnc75⟩ := nn_ NB591_604
                obtain ⟨hcz76_0, hcz76_1, hcz76_2, hfz76_0, hfz76_1, hfz76_2⟩ := e3_ BK591
                obtain ⟨Ao77, co77, eo77⟩ := Kd.R_slice HO_13.out
                subst eo77
                go_wp2_with (first | (go_at_call 22; (with_reducible refine (armadaref03_Same.calls k3 _ _ t586 _ _ x13_3 t607 _ ?side1 ?side2 ?side3 ?side4 A72.out).mono ?_); (case side1 => exact qK (Kd.R_reads' HO588.out).2.2); (case side2 => exact (Kd.R_reads' HO588.out).2.1); (case side3 => exact qK (Kd.R_reads' HO_13.out).2.2); (case side4 => exact (Kd.R_reads' HO_13.out).2.1); rintro e w' ⟨rfl, ⟨nd, rfl⟩⟩))
                go_meet
                case rel => exact ⟨_, (!t607), eY, H', ⟨by have := HJ3.out; have := HJ14.out; have := HK3.out; first | omega | exact Nat.le_refl _⟩, ⟨qR HO_13.out⟩, ⟨by (with_reducible repeat (first | apply Kd.V_alloc | apply Kd.V_drewN | apply Kd.V_drew)); exact Kd.V_mono HO_562000.out (fun _ hk => ⟨hk.1, ⟨hk.2.1, ⟨hk.2.2.2.1, ⟨hk.2.2.2.2.1, ⟨hk.2.2.2.2.2.1, hk.2.2.2.2.2.2⟩⟩⟩⟩⟩)⟩, ⟨by (with_reducible repeat (first | apply Kd.V_alloc | apply Kd.V_drewN | apply Kd.V_drew)); exact Kd.V_mono HO_562001.out (fun _ hk => ⟨hk.1, ⟨hk.2.1, ⟨hk.2.2.2.1, ⟨hk.2.2.2.2.1, ⟨hk.2.2.2.2.2.1, hk.2.2.2.2.2.2⟩⟩⟩⟩⟩)⟩, ⟨qR HO588.out⟩, ⟨by (with_reducible repeat (first | apply Kd.V_alloc | apply Kd.V_drewN | apply Kd.V_drew)); exact Kd.V_mono HO599.out (fun _ hk => ⟨hk.1, ⟨hk.2.1, ⟨hk.2.2.2.1, ⟨hk.2.2.2.2.1, ⟨hk.2.2.2.2.2.1, hk.2.2.2.2.2.2⟩⟩⟩⟩⟩)⟩, ⟨by (with_reducible repeat (first | apply Kd.V_alloc | apply Kd.V_drewN | apply Kd.V_drew)); exact Kd.V_mono HO602.out (fun _ hk => ⟨hk.1, ⟨hk.2.1, ⟨hk.2.2.2.1, ⟨hk.2.2.2.2.1, ⟨hk.2.2.2.2.2.1, hk.2.2.2.2.2.2⟩⟩⟩⟩⟩)⟩, ⟨qB BK561⟩, ⟨qB BK562⟩, ⟨qB BK591⟩, ⟨qB BK604⟩, ⟨qH⟩⟩
              ·rw [if_neg c70] at H
               have c70b0 : (t603 == 0) = false := beq_eq_false_iff_ne.mpr c70
               have c70b1 : (t603 != 0) = true := bne_iff_ne.mpr c70
               have H' := Aside0.mk H
               clear H
               go_wp2
               go_meet
               case rel => exact ⟨_, (true), eY, H', ⟨by have := HJ3.out; have := HJ14.out; have := HK3.out; first | omega | exact Nat.le_refl _⟩, ⟨qR HO_13.out⟩, ⟨by (with_reducible repeat (first | apply Kd.V_alloc | apply Kd.V_drewN | apply Kd.V_drew)); exact Kd.V_mono HO_562000.out (fun _ hk => ⟨hk.1, ⟨hk.2.1, ⟨hk.2.2.2.1, ⟨hk.2.2.2.2.1, ⟨hk.2.2.2.2.2.1, hk.2.2.2.2.2.2⟩⟩⟩⟩⟩)⟩, ⟨by (with_reducible repeat (first | apply Kd.V_alloc | apply Kd.V_drewN | apply Kd.V_drew)); exact Kd.V_mono HO_562001.out (fun _ hk => ⟨hk.1, ⟨hk.2.1, ⟨hk.2.2.2.1, ⟨hk.2.2.2.2.1, ⟨hk.2.2.2.2.2.1, hk.2.2.2.2.2.2⟩⟩⟩⟩⟩)⟩, ⟨qR HO588.out⟩, ⟨by (with_reducible repeat (first | apply Kd.V_alloc | apply Kd.V_drewN | apply Kd.V_drew)); exact Kd.V_mono HO599.out (fun _ hk => ⟨hk.1, ⟨hk.2.1, ⟨hk.2.2.2.1, ⟨hk.2.2.2.2.1, ⟨hk.2.2.2.2.2.1, hk.2.2.2.2.2.2⟩⟩⟩⟩⟩)⟩, ⟨by (with_reducible repeat (first | apply Kd.V_alloc | apply Kd.V_drewN | apply Kd.V_drew)); exact Kd.V_mono HO602.out (fun _ hk => ⟨hk.1, ⟨hk.2.1, ⟨hk.2.2.2.1, ⟨hk.2.2.2.2.1, ⟨hk.2.2.2.2.2.1, hk.2.2.2.2.2.2⟩⟩⟩⟩⟩)⟩, ⟨qB BK561⟩, ⟨qB BK562⟩, ⟨qB BK591⟩, ⟨qB BK604⟩, ⟨qH⟩⟩
             ·rw [if_neg c69] at H
              have c69b0 : (t590 == 0) = false := beq_eq_false_iff_ne.mpr c69
              have c69b1 : (t590 != 0) = true := bne_iff_ne.mpr c69
              (first | rw [c69b0] | (simp only [i64_w, i32_w]; rw [c69b0]) | skip)
              have H' := Aside0.mk H
              clear H
              go_wp2
              go_meet
              case rel => exact ⟨_, (true), eY, H', ⟨by have := HJ3.out; have := HJ14.out; have := HK3.out; first | omega | exact Nat.le_refl _⟩, ⟨qR HO_13.out⟩, ⟨by (with_reducible repeat (first | apply Kd.V_alloc | apply Kd.V_drewN | apply Kd.V_drew)); exact Kd.V_mono HO_562000.out (fun _ hk => ⟨hk.1, ⟨hk.2.1, ⟨hk.2.2.2.1, ⟨hk.2.2.2.2.1, ⟨hk.2.2.2.2.2.1, hk.2.2.2.2.2.2⟩⟩⟩⟩⟩)⟩, ⟨by (with_reducible repeat (first | apply Kd.V_alloc | apply Kd.V_drewN | apply Kd.V_drew)); exact Kd.V_mono HO_562001.out (fun _ hk => ⟨hk.1, ⟨hk.2.1, ⟨hk.2.2.2.1, ⟨hk.2.2.2.2.1, ⟨hk.2.2.2.2.2.1, hk.2.2.2.2.2.2⟩⟩⟩⟩⟩)⟩, ⟨qR HO588.out⟩, ⟨by (with_reducible repeat (first | apply Kd.V_alloc | apply Kd.V_drewN | apply Kd.V_drew)); exact Kd.V_mono HO599.out (fun _ hk => ⟨hk.1, ⟨hk.2.1, ⟨hk.2.2.2.1, ⟨hk.2.2.2.2.1, ⟨hk.2.2.2.2.2.1, hk.2.2.2.2.2.2⟩⟩⟩⟩⟩)⟩, ⟨by (with_reducible repeat (first | apply Kd.V_alloc | apply Kd.V_drewN | apply Kd.V_drew)); exact Kd.V_mono HO602.out (fun _ hk => ⟨hk.1, ⟨hk.2.1, ⟨hk.2.2.2.1, ⟨hk.2.2.2.2.1, ⟨hk.2.2.2.2.2.1, hk.2.2.2.2.2.2⟩⟩⟩⟩⟩)⟩, ⟨qB BK561⟩, ⟨qB BK562⟩, ⟨qB BK591⟩, ⟨qB BK604⟩, ⟨qH⟩⟩
            case rest =>
             clear HC42
             (try clear p2); (try clear p5); (try clear q5); (try clear p6); (try clear q6); (try clear c33b0); (try clear c34b0); (try clear c35b0); (try clear c35b1)
             (try clear p58); (try clear q58); (try clear p59); (try clear q59); (try clear p60); (try clear q60); (try clear p64); (try clear hcz44_0); (try clear hcz44_1)
             (try clear hcz45_0); (try clear hcz45_1); (try clear hcz52_0); (try clear hcz52_1); (try clear hcz52_2); (try clear hcz57_0); (try clear hcz57_1); (try clear hcz65_0)
             (try clear hcz65_1); (try clear hfz44_0); (try clear hfz44_1); (try clear hfz45_0); (try clear hfz45_1); (try clear hfz52_0); (try clear hfz52_1); (try clear hfz52_2)
             (try clear hfz57_0); (try clear hfz57_1); (try clear hfz65_0); (try clear hfz65_1); (try clear hx583_0); (try clear hx592_0); (try clear hx605_0); (try clear p2)
             (try clear p583); (try clear p592); (try clear p605); (try clear q583); (try clear q592); (try clear q605)
             obtain ⟨kq, x138_41, rfl, HA, HJ41, HO_13, HO_562000, HO_562001, HO_592001, HO_605000, HO_605001, BK561, BK562, BK591, BK604, HB⟩ := hcut
             cases kq with
             | zero => exact absurd HA.out (by simp [armadalaw04_JournalRow.j3])
             | succ kj41 =>
              have H := HA.out
              clear HA
              simp only [armadalaw04_JournalRow.j3] at H
              by_cases c78 : x138_41 = true
              ·subst c78
               rw [if_pos rfl] at H
               exact absurd H (by simp)
              ·replace c78 := Bool.eq_false_iff.mpr c78
               subst c78
               rw [if_neg nF_] at H
               by_cases c79 : (decide ((wrap64 (1 + t606)) ≤ (wrap64 (a0 - t589)))) = true
               ·rw [if_pos c79] at H
                have c79b0 : (decide ((wrap64 (1 + t606)) ≤ (wrap64 (a0 - t589)))) = true := c79
                (first | rw [c79b0] | (simp only [i64_w, i32_w]; rw [c79b0]) | skip) -- FIX04c
                clear c79
                by_cases c80 : 0 ≤ x14_3
                ·rw [if_pos c80] at H
                 have c80b0 : decide (0 ≤ x14_3) = true := decide_eq_true c80
                 clear c80
                 by_cases c81 : x14_3 < (l2.length : Int)
                 ·rw [if_pos c81] at H
                  have c81b0 : decide (x14_3 < (l2.length : Int)) = true := decide_eq_true c81
                  clear c81
                  by_cases c82 : x13_3.length < 8796093022208
                  ·rw [if_pos c82] at H
                   have LMc82 := Aside0.mk c82
                   clear c82
                   obtain ⟨y609, hy609⟩ : ∃ y_ : List ByteArray, y_ = (x13_3 ++ [rdOf ByteArray.empty l2 x14_3]) := ⟨_, rfl⟩
                   replace H : (armadalaw04_JournalRow.l0 kj41 a0 a1 l2 y609 (wrap64 (x14_3 + 1)) t597 t600 0 a0) = some true := by first | (rw [hy609]; with_reducible exact H) | (have H2_ := (Option.bind_some _ _).symm.trans H; rw [hy609]; with_reducible exact H2_) | (have H2_ := (Option.bind_some _ _).symm.trans H; with_reducible exact H2_) | with_reducible exact H | (rw [hy609]; exact H) | exact H
                   have Ny609 := Aside0.mk hy609
                   clear hy609
                   have H' := Aside0.mk H
                   clear H
                   have p608 : 0 ≤ (x14_3 : Int) := of_decide_eq_true aS
                   have q608 : x14_3 < (l2.length : Int) := of_decide_eq_true aS
                   obtain ⟨ad608, e608, hx608_0⟩ := Kd.at_string HR2.out x14_3 p608 q608
                   obtain rfl : ad583 = ad608 := (by injection e608)
                   replace hx608_0 := (HB.out.cell (World.block_lt_of_cell? w _ hx608_0)).trans hx608_0
                   replace p608 := eq_true p608
                   replace q608 := eq_true q608
                   go_wp2_with (first | ((with_reducible refine gate_builtin (b := .append) (xs := #[.tmp 140, .tmp 145]) rfl ?_); (try (refine gate_guard (by rfl) ?_; dsimp only)); at_builtin; refine Kd.R_append Kd.string (w0 := w) w.heap.size rfl (.tmp 140) (.tmp 145) 22 9 (.string ⟨#[]⟩) 16 rfl Try.underlying22 info9 rfl (by decide) (by omega) u13 x13_3 (rdOf ByteArray.empty l2 x14_3) [.string (rdOf ByteArray.empty l2 x14_3)] (fun k_ => some k_ ≠ (.slice Ao53 t586.length co53 : Value).ownBlock) (fun _ => False) rfl rfl ?aP (fun _ hk => hk.elim) ?aF ?aO ?aB ?aS ?aL ?_; (case aP => exact rfl); (case aB => exact qH); (case aF => exact (fun k_ hk => Kd.fresh' (Kd.R_lt (qR HO_592001.out)) k_ hk)); (case aO => exact (qR HO_13.out)); (case aS => exact (below_size qH)); (case aL => have := LMc82.out; omega); intro v610 w83 ho hb hg hat; rw [← Ny609.out] at ho; replace HO_562000 := Aside0.mk (Kd.V_afterv (ok := (fun k_ => some k_ ≠ (.slice Ao53 t586.length co53 : Value).ownBlock ∧ k_ ≠ gb561 ∧ k_ ≠ gb562 ∧ k_ ≠ gb591 ∧ k_ ≠ gb604)) (qV (Kd.V_mono HO_562000.out (fun _ hk => ⟨⟨hk.2.1, ⟨hk.2.2.1, ⟨hk.2.2.2.1, ⟨hk.2.2.2.2.1, hk.2.2.2.2.2⟩⟩⟩⟩, hk.1⟩))) hg hat); replace HO_562001 := Aside0.mk (Kd.V_afterv (ok := (fun k_ => some k_ ≠ (.slice Ao53 t586.length co53 : Value).ownBlock ∧ k_ ≠ gb561 ∧ k_ ≠ gb562 ∧ k_ ≠ gb591 ∧ k_ ≠ gb604)) (qV (Kd.V_mono HO_562001.out (fun _ hk => ⟨⟨hk.2.1, ⟨hk.2.2.1, ⟨hk.2.2.2.1, ⟨hk.2.2.2.2.1, hk.2.2.2.2.2⟩⟩⟩⟩, hk.1⟩))) hg hat); replace HO_605000 := Aside0.mk (Kd.V_afterv (ok := (fun k_ => some k_ ≠ (.slice Ao53 t586.length co53 : Value).ownBlock ∧ k_ ≠ gb561 ∧ k_ ≠ gb562 ∧ k_ ≠ gb591 ∧ k_ ≠ gb604)) (qV (Kd.V_mono HO_605000.out (fun _ hk => ⟨⟨hk.2.1, ⟨hk.2.2.1, ⟨hk.2.2.2.1, ⟨hk.2.2.2.2.1, hk.2.2.2.2.2⟩⟩⟩⟩, hk.1⟩))) hg hat); replace HO_605001 := Aside0.mk (Kd.V_afterv (ok := (fun k_ => some k_ ≠ (.slice Ao53 t586.length co53 : Value).ownBlock ∧ k_ ≠ gb561 ∧ k_ ≠ gb562 ∧ k_ ≠ gb591 ∧ k_ ≠ gb604)) (qV (Kd.V_mono HO_605001.out (fun _ hk => ⟨⟨hk.2.1, ⟨hk.2.2.1, ⟨hk.2.2.2.1, ⟨hk.2.2.2.2.1, hk.2.2.2.2.2⟩⟩⟩⟩, hk.1⟩))) hg hat); replace BK561 := Aside0.mk (blk_grown (g := gb561) (o := .cells #[.slice Ao46 x562000_3.length co46, .slice Ao47 x562001_3.length co47] 25 (0, 0)) (qB BK561) hg (Kd.R_ne HO_13.out BK561.out (by decide))); replace BK562 := Aside0.mk (blk_grown (g := gb562) (o := .cells #[.int .i64 0, .int .i64 a0] 40 (0, 0)) (qB BK562) hg (Kd.R_ne HO_13.out BK562.out (by decide))); replace BK591 := Aside0.mk (blk_grown (g := gb591) (o := .cells #[.int .i64 t585, .slice Ao53 t586.length co53, .int .i64 t589] 37 (0, 0)) (qB BK591) hg (Kd.R_ne HO_13.out BK591.out (by decide))); replace BK604 := Aside0.mk (blk_grown (g := gb604) (o := .cells #[.slice Ao61 t597.length co61, .slice Ao66 t600.length co66] 25 (0, 0)) (qB BK604) hg (Kd.R_ne HO_13.out BK604.out (by decide))); replace HB := Aside0.mk (hb); have HO611 := Aside0.mk (ho); clear HO_13; clear ho hb hg hat; obtain ⟨hnb84, hnc84⟩ := nn_ NB604_561; obtain ⟨hnb85, hnc85⟩ := nn_ NB604_562; obtain ⟨hnb86, hnc86⟩ := nn_ NB604_591; obtain ⟨hcz87_0, hcz87_1, hfz87_0, hfz87_1⟩ := e2_ BK604; obtain ⟨hnb88, hnc88⟩ := nn_ NB561_562; obtain ⟨hnb89, hnc89⟩ := nn_ NB561_591; obtain ⟨hcz90_0, hcz90_1, hfz90_0, hfz90_1⟩ := e2_ BK561))
                   go_roundg kj41
                   case measure => have := HJ3.out; have := HJ14.out; have := HK3.out; have := HJ41.out; omega
                   case rel => exact ⟨(y609), (wrap64 (x14_3 + 1)), (t597), (t600), (.slice Ao61 t597.length co61), (.slice Ao66 t600.length co66), eY, H', ⟨by have := HJ3.out; have := HJ14.out; have := HK3.out; have := HJ41.out; omega⟩, ⟨by (with_reducible repeat (first | apply Kd.R_alloc | apply Kd.R_drewN | apply Kd.R_drew)); exact Kd.R_mono (rG2 HO611.out BK561) (fun _ hk => trivial)⟩, ⟨by (with_reducible repeat (first | apply Kd.V_alloc | apply Kd.V_drewN | apply Kd.V_drew)); exact Kd.V_mono (vG2 (g := gb561) HO_605000.out (fun _ hk => hk.1.2.1)) (fun _ hk => ⟨hk.1.2, ⟨hk.1.1.2.1, hk.1.1.2.2.1⟩⟩)⟩, ⟨by (with_reducible repeat (first | apply Kd.V_alloc | apply Kd.V_drewN | apply Kd.V_drew)); exact Kd.V_mono (vG2 (g := gb561) HO_605001.out (fun _ hk => hk.1.2.1)) (fun _ hk => ⟨hk.1.2, ⟨hk.1.1.2.1, hk.1.1.2.2.1⟩⟩)⟩, ⟨by (with_reducible repeat (first | apply xN_ | apply xD_ | apply xA_)); refine blk_put (cs := #[.slice Ao61 t597.length co61, .slice Ao47 x562001_3.length co47]) ?_ 1 _ rfl; refine blk_put (cs := #[.slice Ao46 x562000_3.length co46, .slice Ao47 x562001_3.length co47]) ?_ 0 _ rfl; (with_reducible repeat (first | apply xN_ | apply xD_ | apply xA_)); exact BK561.out⟩, ⟨by (with_reducible repeat (first | apply xN_ | apply xD_ | apply xA_)); refine xR_ ?_ NB562_561.out _; refine xR_ ?_ NB562_561.out _; (with_reducible repeat (first | apply xN_ | apply xD_ | apply xA_)); exact BK562.out⟩, ⟨qH⟩⟩
                  ·rw [if_neg c82] at H
                   exact absurd H (by simp)
                 ·rw [if_neg c81] at H
                  exact absurd H (by simp)
                ·rw [if_neg c80] at H
                 exact absurd H (by simp)
               ·rw [if_neg c79] at H
                have c79b0 : (decide ((wrap64 (1 + t606)) ≤ (wrap64 (a0 - t589)))) = false := by simpa using c79
                (first | rw [c79b0] | (simp only [i64_w, i32_w]; rw [c79b0]) | skip) -- FIX04c
                clear c79
                have H' := Aside0.mk H
                clear H
                obtain ⟨hnb91, hnc91⟩ := nn_ NB604_561
                obtain ⟨hnb92, hnc92⟩ := nn_ NB604_562
                obtain ⟨hnb93, hnc93⟩ := nn_ NB604_591
                obtain ⟨hcz94_0, hcz94_1, hfz94_0, hfz94_1⟩ := e2_ BK604
                obtain ⟨hnb95, hnc95⟩ := nn_ NB561_562
                obtain ⟨hnb96, hnc96⟩ := nn_ NB561_591
                obtain ⟨hcz97_0, hcz97_1, hfz97_0, hfz97_1⟩ := e2_ BK561
                go_wp2
                go_roundg kj41
                case measure => have := HJ3.out; have := HJ14.out; have := HK3.out; have := HJ41.out; omega
                case rel => exact ⟨(x13_3), (wrap64 (x14_3 + 1)), (t597), (t600), (.slice Ao61 t597.length co61), (.slice Ao66 t600.length co66), eY, H', ⟨by have := HJ3.out; have := HJ14.out; have := HK3.out; have := HJ41.out; omega⟩, ⟨by (with_reducible repeat (first | apply Kd.R_alloc | apply Kd.R_drewN | apply Kd.R_drew)); exact Kd.R_mono (rG2 HO_13.out BK561) (fun _ hk => trivial)⟩, ⟨by (with_reducible repeat (first | apply Kd.V_alloc | apply Kd.V_drewN | apply Kd.V_drew)); exact Kd.V_mono (vG2 (g := gb561) HO_605000.out (fun _ hk => hk.2.2.1)) (fun _ hk => ⟨hk.1.1, ⟨hk.1.2.2.1, hk.1.2.2.2.1⟩⟩)⟩, ⟨by (with_reducible repeat (first | apply Kd.V_alloc | apply Kd.V_drewN | apply Kd.V_drew)); exact Kd.V_mono (vG2 (g := gb561) HO_605001.out (fun _ hk => hk.2.2.1)) (fun _ hk => ⟨hk.1.1, ⟨hk.1.2.2.1, hk.1.2.2.2.1⟩⟩)⟩, ⟨by (with_reducible repeat (first | apply xN_ | apply xD_ | apply xA_)); refine blk_put (cs := #[.slice Ao61 t597.length co61, .slice Ao47 x562001_3.length co47]) ?_ 1 _ rfl; refine blk_put (cs := #[.slice Ao46 x562000_3.length co46, .slice Ao47 x562001_3.length co47]) ?_ 0 _ rfl; (with_reducible repeat (first | apply xN_ | apply xD_ | apply xA_)); exact BK561.out⟩, ⟨by (with_reducible repeat (first | apply xN_ | apply xD_ | apply xA_)); refine xR_ ?_ NB562_561.out _; refine xR_ ?_ NB562_561.out _; (with_reducible repeat (first | apply xN_ | apply xD_ | apply xA_)); exact BK562.out⟩, ⟨qH⟩⟩
          ·rw [if_neg c34] at H
           exact absurd H (by simp)
         ·rw [if_neg c33] at H
          have c33b0 : decide (x14_3 < (l2.length : Int)) = false := decide_eq_false c33
          clear c33
          replace H := Option.bind_eq_some_iff.mp H
          obtain ⟨⟨t574, t575, t578, t579⟩, A980, H⟩ := H
          try dsimp only at H
          have A98 := Aside0.mk A980
          clear A980
          by_cases c99 : t579 = 0
          ·rw [if_pos c99] at H
           have c99b0 : (t579 == 0) = true := beq_iff_eq.mpr c99
           have c99b1 : (t579 != 0) = false := bne_eq_false_iff_eq.mpr c99
           clear c99
           replace H := Option.bind_eq_some_iff.mp H
           obtain ⟨t581, A1000, H⟩ := H
           try dsimp only at H
           have A100 := Aside0.mk A1000
           clear A1000
           by_cases c101 : t581 = true
           ·subst c101
            rw [if_pos rfl] at H
            by_cases c102 : t574 = a1
            ·rw [if_pos c102] at H
             have c102b0 : (t574 == a1) = true := beq_iff_eq.mpr c102
             have c102b1 : (t574 != a1) = false := bne_eq_false_iff_eq.mpr c102
             clear c102
             replace H := Option.bind_eq_some_iff.mp H
             obtain ⟨t582, A1030, H⟩ := H
             try dsimp only at H
             have A103 := Aside0.mk A1030
             clear A1030
             obtain rfl := Option.some.inj H
             obtain ⟨hnb104, hnc104⟩ := nn_ NB561_562
             obtain ⟨hcz105_0, hcz105_1, hfz105_0, hfz105_1⟩ := e2_ BK561
             obtain ⟨hcz106_0, hcz106_1, hfz106_0, hfz106_1⟩ := e2_ BK562
             obtain ⟨Ao107, co107, eo107⟩ := Kd.V_slice HO_562000.out
             subst eo107
             obtain ⟨Ao108, co108, eo108⟩ := Kd.V_slice HO_562001.out
             subst eo108
             go_wp2_with (first | ((with_reducible refine gate_callee (f := 11) rfl ?_); refine gL (some 151) Try.func11 #[.agg #[.slice Ao107 x562000_3.length co107, .slice Ao108 x562001_3.length co108], .agg #[.int .i64 0, .int .i64 a0]] ?_; (with_reducible refine (journal_Open.calls k3 _ _ x562000_3 _ _ x562001_3 0 a0 t574 t575 t578 t579 _ ?side1 ?side2 ?side3 ?side4 A98.out).mono ?_); (case side1 => exact qK (Kd.V_reads' HO_562000.out).2.2); (case side2 => exact (Kd.V_reads' HO_562000.out).2.1); (case side3 => exact qK (Kd.V_reads' HO_562001.out).2.2); (case side4 => exact (Kd.V_reads' HO_562001.out).2.1); rintro e w109 ⟨v576, rfl, ho0, hb⟩; refine ⟨_, rfl, ?_⟩; have HO577 := Aside0.mk (Kd.R_lower (Kd.R_new' ho0 (Kd.R_lt (qR HO_13.out))) (below_size qH)); replace BK561 := wB BK561 hb; replace BK562 := wB BK562 hb; replace HO_13 := Aside0.mk (Kd.R_elder' (qR HO_13.out) (Kd.R_base ho0) hb); replace HB := wH hb; (try clear hb); (try clear ho0)) | ((with_reducible refine gate_dst (N := 22) rfl ?_); (try (refine gate_guard (by rfl) ?_; dsimp only)); refine bE (N := 22) (cs := #[.int .i64 0, .slice none 0 0, .int .i64 0]) (t := 37) ?_; intro gb580 hg w110 hbox hb; have hz_ := zqA HB hb; replace hb := below_step hz_ hb; replace HO_13 := zR HO_13 hb; replace HO577 := zR HO577 hb; have BK580 := Aside0.mk hbox; have GE580 := zG HB hz_ hg; have NB561_580 := zN BK561 hz_ hg; have NB580_561 := zM BK561 hz_ hg; have NB562_580 := zN BK562 hz_ hg; have NB580_562 := zM BK562 hz_ hg; replace BK561 := zB BK561 hb; replace BK562 := zB BK562 hb; replace HB := zH HB hb; clear hz_; clear hb hbox hg; obtain ⟨hnb111, hnc111⟩ := nn_ NB580_561; obtain ⟨hnb112, hnc112⟩ := nn_ NB580_562; obtain ⟨hcz113_0, hcz113_1, hcz113_2, hfz113_0, hfz113_1, hfz113_2⟩ := e3_ BK580; obtain ⟨Ao114, co114, eo114⟩ := Kd.R_slice HO577.out; subst eo114; obtain ⟨Ao115, co115, eo115⟩ := Kd.R_slice HO_13.out; subst eo115) | (go_at_call 22; (with_reducible refine (armadaref03_Same.calls k3 _ _ t575 _ _ x13_3 true _ ?side1 ?side2 ?side3 ?side4 A100.out).mono ?_); (case side1 => refine (Kd.R_reads' (e := 9) (base := w.heap.size) (ok := fun k_ => (True ∧ some k_ ≠ (.slice Ao115 x13_3.length co115 : Value).ownBlock)) (n := t575.length) (c := co114) ?_).2.2; exact (qR (rF3 HO577.out BK580))); (case side2 => exact (Kd.R_reads' HO577.out).2.1); (case side3 => refine (Kd.R_reads' (e := 9) (base := w.heap.size) (ok := fun k_ => (True ∧ some k_ ≠ (.slice Ao114 t575.length co114 : Value).ownBlock)) (n := x13_3.length) (c := co115) ?_).2.2; exact (qR (rF3 HO_13.out BK580))); (case side4 => exact (Kd.R_reads' HO_13.out).2.1); rintro e w' ⟨rfl, ⟨nd, rfl⟩⟩) | (go_at_call 9; (with_reducible refine (armadalaw04_live.calls k3  true _ A103.out).mono ?_); rintro e w116 ⟨rfl, hb⟩; replace BK561 := wF BK561 hb; replace BK562 := wF BK562 hb; replace HB := wH hb; replace BK580 := wP3 BK580 hb; (try clear hb)))
             go_ret
             exact ⟨eX, qH⟩
            ·rw [if_neg c102] at H
             have c102b0 : (t574 == a1) = false := beq_eq_false_iff_ne.mpr c102
             have c102b1 : (t574 != a1) = true := bne_iff_ne.mpr c102
             exact absurd H (by simp)
           ·replace c101 := Bool.eq_false_iff.mpr c101
            subst c101
            rw [if_neg nF_] at H
            exact absurd H (by simp)
          ·rw [if_neg c99] at H
           have c99b0 : (t579 == 0) = false := beq_eq_false_iff_ne.mpr c99
           have c99b1 : (t579 != 0) = true := bne_iff_ne.mpr c99
           exact absurd H (by simp)
end Go.Proofs.Ythoddglnfdmdeaa.P
