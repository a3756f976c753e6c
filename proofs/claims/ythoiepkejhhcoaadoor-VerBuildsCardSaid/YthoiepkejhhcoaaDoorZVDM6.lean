/- Printed functions, merged. -/
import Derived.Test.YthoiepkejhhcoaaDoorZVDM0
import Derived.Test.YthoiepkejhhcoaaDoorZVDVLaid
import Derived.Test.YthoiepkejhhcoaaDoorZVDM3
import Derived.Test.YthoiepkejhhcoaaDoorZVDM4
import Derived.Test.YthoiepkejhhcoaaDoorZVDVBumpZ
import Derived.Test.YthoiepkejhhcoaaDoorZVDVCheck
namespace Go.Proofs.YthoiepkejhhcoaaDoor.P
open Go.RowKit Go.Proofs.YthoiepkejhhcoaaDoorW.PrintWords Go.Proofs.YthoiepkejhhcoaaDoorW.PrintLast Go.Proofs.YthoiepkejhhcoaaDoorW.PrintMore
attribute [local go_sem] max2_int min2_int max_two min_two max_three min_three max_four min_four   -- for this text's walks alone
set_option linter.unusedVariables false
set_option linter.unusedSimpArgs false
section
attribute [local go_sem high] eqA23
mutual
def armadalaw07_VerBuilds.j0 : Nat → Int → Bool → Int → Int → Int → ByteArray → ByteArray → Int → Int → Int → ByteArray → ByteArray → Option (Bool)
  | 0, _, _, _, _, _, _, _, _, _, _, _, _ => none
  | k + 1, x2, x39, x540000, x540001, x540002, x540003, x540004, x541000, x541001, x541002, x541003, x541004 => if x39 = true then ((armadalaw07_live.f k).bind fun t543 => (some t543)) else ((ver_Bump.f x540000 x540001 x540002 x540003 x540004 x2).bind fun bt546 => ((ver_Bump.f x540000 x540001 x540002 x540003 (⟨#[]⟩ : ByteArray) x2).bind fun bt553 => (if x540003.toList = ([] : List UInt8) then (armadalaw07_VerBuilds.j1 k bt546.2.2.2.2.2 bt553.2.2.2.2.2 0 x540000 x540001 x540002 x540003 x540004 x541000 x541001 x541002 x541003 x541004 x540000 x540001 x540002 x540003 (⟨#[]⟩ : ByteArray) x540000 x540001 x540002 (⟨#[]⟩ : ByteArray) x540004 bt546.1 bt546.2.1 bt546.2.2.1 bt546.2.2.2.1 bt546.2.2.2.2.1 bt553.1 bt553.2.1 bt553.2.2.1 bt553.2.2.2.1 bt553.2.2.2.2.1) else (armadalaw07_VerBuilds.j1 k bt546.2.2.2.2.2 bt553.2.2.2.2.2 (-1) x540000 x540001 x540002 x540003 x540004 x541000 x541001 x541002 x541003 x541004 x540000 x540001 x540002 x540003 (⟨#[]⟩ : ByteArray) x540000 x540001 x540002 (⟨#[]⟩ : ByteArray) x540004 bt546.1 bt546.2.1 bt546.2.2.1 bt546.2.2.2.1 bt546.2.2.2.2.1 bt553.1 bt553.2.1 bt553.2.2.1 bt553.2.2.2.1 bt553.2.2.2.2.1))))
def armadalaw07_VerBuilds.j1 : Nat → Int → Int → Int → Int → Int → Int → ByteArray → ByteArray → Int → Int → Int → ByteArray → ByteArray → Int → Int → Int → ByteArray → ByteArray → Int → Int → Int → ByteArray → ByteArray → Int → Int → Int → ByteArray → ByteArray → Int → Int → Int → ByteArray → ByteArray → Option (Bool)
  | 0, _, _, _, _, _, _, _, _, _, _, _, _, _, _, _, _, _, _, _, _, _, _, _, _, _, _, _, _, _, _, _, _, _ => none
  | k + 1, x10, x12, x13, x540000, x540001, x540002, x540003, x540004, x541000, x541001, x541002, x541003, x541004, x545000, x545001, x545002, x545003, x545004, x546000, x546001, x546002, x546003, x546004, x553000, x553001, x553002, x553003, x553004, x560000, x560001, x560002, x560003, x560004 => (ver_Compare.f k x540000 x540001 x540002 x540003 x540004 x541000 x541001 x541002 x541003 x541004).bind fun t560 => ((ver_Compare.f k x545000 x545001 x545002 x545003 x545004 x541000 x541001 x541002 x541003 x541004).bind fun t561 => (if t560 = t561 then (if (x553000 == x560000 && (x553001 == x560001 && (x553002 == x560002 && (x553003.toList == x560003.toList && (x553004.toList == x560004.toList))))) = true then (if x10 = x12 then ((ver_Compare.f k x540000 x540001 x540002 x540003 x540004 x546000 x546001 x546002 x546003 x546004).bind fun t562 => (if t562 = x13 then ((armadalaw07_live.f k).bind fun t563 => (some t563)) else (some false))) else (some false)) else (some false)) else (some false)))
end
def armadalaw07_VerBuilds.f (k : Nat) (a0_0 : Int) (a0_1 : Int) (a0_2 : Int) (a0_3 : ByteArray) (a0_4 : ByteArray) (a1_0 : Int) (a1_1 : Int) (a1_2 : Int) (a1_3 : ByteArray) (a1_4 : ByteArray) (a2 : Int) : Option (Bool) := if (wrap64 ((wrap64 ((wrap64 ((a0_3.size : Int) + (a0_4.size : Int))) + (a1_3.size : Int))) + (a1_4.size : Int))) > 400 then (armadalaw07_VerBuilds.j0 k a2 true a0_0 a0_1 a0_2 a0_3 a0_4 a1_0 a1_1 a1_2 a1_3 a1_4) else ((ver_Check.f a0_0 a0_1 a0_2 a0_3 a0_4).bind fun t541 => (if t541 = true then ((ver_Check.f a1_0 a1_1 a1_2 a1_3 a1_4).bind fun t542 => (armadalaw07_VerBuilds.j0 k a2 (!t542) a0_0 a0_1 a0_2 a0_3 a0_4 a1_0 a1_1 a1_2 a1_3 a1_4)) else (armadalaw07_VerBuilds.j0 k a2 true a0_0 a0_1 a0_2 a0_3 a0_4 a1_0 a1_1 a1_2 a1_3 a1_4)))
theorem armadalaw07_VerBuilds.mono_l : ∀ k, (∀ y0 y1 y2 y3 y4 y5 y6 y7 y8 y9 y10 y11, LeO (armadalaw07_VerBuilds.j0 k y0 y1 y2 y3 y4 y5 y6 y7 y8 y9 y10 y11) (armadalaw07_VerBuilds.j0 (k + 1) y0 y1 y2 y3 y4 y5 y6 y7 y8 y9 y10 y11)) ∧ (∀ y0 y1 y2 y3 y4 y5 y6 y7 y8 y9 y10 y11 y12 y13 y14 y15 y16 y17 y18 y19 y20 y21 y22 y23 y24 y25 y26 y27 y28 y29 y30 y31 y32, LeO (armadalaw07_VerBuilds.j1 k y0 y1 y2 y3 y4 y5 y6 y7 y8 y9 y10 y11 y12 y13 y14 y15 y16 y17 y18 y19 y20 y21 y22 y23 y24 y25 y26 y27 y28 y29 y30 y31 y32) (armadalaw07_VerBuilds.j1 (k + 1) y0 y1 y2 y3 y4 y5 y6 y7 y8 y9 y10 y11 y12 y13 y14 y15 y16 y17 y18 y19 y20 y21 y22 y23 y24 y25 y26 y27 y28 y29 y30 y31 y32))
  | 0 => ⟨fun _ _ _ _ _ _ _ _ _ _ _ _ r h => by simp [armadalaw07_VerBuilds.j0] at h, fun _ _ _ _ _ _ _ _ _ _ _ _ _ _ _ _ _ _ _ _ _ _ _ _ _ _ _ _ _ _ _ _ _ r h => by simp [armadalaw07_VerBuilds.j1] at h⟩
  | k + 1 => by
    obtain ⟨ih0, ih1⟩ := armadalaw07_VerBuilds.mono_l k
    refine ⟨?_, ?_⟩
    · intro y0 y1 y2 y3 y4 y5 y6 y7 y8 y9 y10 y11
      unfold armadalaw07_VerBuilds.j0
      repeat' first
      | (with_reducible exact ih0 _ _ _ _ _ _ _ _ _ _ _ _)
      | (with_reducible exact ih1 _ _ _ _ _ _ _ _ _ _ _ _ _ _ _ _ _ _ _ _ _ _ _ _ _ _ _ _ _ _ _ _ _)
      | (with_reducible exact armadalaw07_live.mono _)
      | (with_reducible exact ver_Compare.mono _ _ _ _ _ _ _ _ _ _ _)
      | (with_reducible exact LeO.refl _)
      | (with_reducible exact LeO.none _)
      | (with_reducible refine LeO.ite ?_ ?_)
      | (with_reducible refine LeO.bind ?_ (fun _ => ?_))
      | exact ih0 _ _ _ _ _ _ _ _ _ _ _ _
      | exact ih1 _ _ _ _ _ _ _ _ _ _ _ _ _ _ _ _ _ _ _ _ _ _ _ _ _ _ _ _ _ _ _ _ _
      | exact armadalaw07_live.mono _
      | exact ver_Compare.mono _ _ _ _ _ _ _ _ _ _ _
      | exact LeO.none _
      | refine LeO.ite ?_ ?_
      | refine LeO.bind ?_ (fun _ => ?_)
    · intro y0 y1 y2 y3 y4 y5 y6 y7 y8 y9 y10 y11 y12 y13 y14 y15 y16 y17 y18 y19 y20 y21 y22 y23 y24 y25 y26 y27 y28 y29 y30 y31 y32
      unfold armadalaw07_VerBuilds.j1
      repeat' first
      | (with_reducible exact ih0 _ _ _ _ _ _ _ _ _ _ _ _)
      | (with_reducible exact ih1 _ _ _ _ _ _ _ _ _ _ _ _ _ _ _ _ _ _ _ _ _ _ _ _ _ _ _ _ _ _ _ _ _)
      | (with_reducible exact armadalaw07_live.mono _)
      | (with_reducible exact ver_Compare.mono _ _ _ _ _ _ _ _ _ _ _)
      | (with_reducible exact LeO.refl _)
      | (with_reducible exact LeO.none _)
      | (with_reducible refine LeO.ite ?_ ?_)
      | (with_reducible refine LeO.bind ?_ (fun _ => ?_))
      | exact ih0 _ _ _ _ _ _ _ _ _ _ _ _
      | exact ih1 _ _ _ _ _ _ _ _ _ _ _ _ _ _ _ _ _ _ _ _ _ _ _ _ _ _ _ _ _ _ _ _ _
      | exact armadalaw07_live.mono _
      | exact ver_Compare.mono _ _ _ _ _ _ _ _ _ _ _
      | exact LeO.none _
      | refine LeO.ite ?_ ?_
      | refine LeO.bind ?_ (fun _ => ?_)
theorem armadalaw07_VerBuilds.mono : ∀ a0 a1 a2 a3 a4 a5 a6 a7 a8 a9 a10 k, LeO (armadalaw07_VerBuilds.f k a0 a1 a2 a3 a4 a5 a6 a7 a8 a9 a10) (armadalaw07_VerBuilds.f (k + 1) a0 a1 a2 a3 a4 a5 a6 a7 a8 a9 a10) := by
  intro a0 a1 a2 a3 a4 a5 a6 a7 a8 a9 a10 k
  obtain ⟨ih0, ih1⟩ := armadalaw07_VerBuilds.mono_l k
  unfold armadalaw07_VerBuilds.f
  repeat' first
      | (with_reducible exact ih0 _ _ _ _ _ _ _ _ _ _ _ _)
      | (with_reducible exact ih1 _ _ _ _ _ _ _ _ _ _ _ _ _ _ _ _ _ _ _ _ _ _ _ _ _ _ _ _ _ _ _ _ _)
      | (with_reducible exact armadalaw07_live.mono _)
      | (with_reducible exact ver_Compare.mono _ _ _ _ _ _ _ _ _ _ _)
      | (with_reducible exact LeO.refl _)
      | (with_reducible exact LeO.none _)
      | (with_reducible refine LeO.ite ?_ ?_)
      | (with_reducible refine LeO.bind ?_ (fun _ => ?_))
      | exact ih0 _ _ _ _ _ _ _ _ _ _ _ _
      | exact ih1 _ _ _ _ _ _ _ _ _ _ _ _ _ _ _ _ _ _ _ _ _ _ _ _ _ _ _ _ _ _ _ _ _
      | exact armadalaw07_live.mono _
      | exact ver_Compare.mono _ _ _ _ _ _ _ _ _ _ _
      | exact LeO.none _
      | refine LeO.ite ?_ ?_
      | refine LeO.bind ?_ (fun _ => ?_)
def armadalaw07_VerBuilds.T12 : Bool × List (List Nat × List Nat) := (true, [([], []), ([], []), ([0, 1], [0, 1]), ([], []), ([], []), ([3, 4, 2], [3, 4]), ([2, 5], [2, 5]), ([6, 5], [6]), ([7], [7]), ([7], [7]), ([8, 9, 7], [7, 8, 9]), ([7, 10], [7, 10]), ([11, 7], [11]), ([12], [12]), ([12], [12]), ([13, 14, 12], [12, 13, 14]), ([12, 15], [12, 15]), ([16, 12], [16]), ([17], [17]), ([17], [17]), ([18, 19, 17, 17], [17, 18, 19]), ([17], [17]), ([20, 21, 17], [17, 20, 21]), ([17, 22], [17, 22]), ([23, 20], [23]), ([24, 24], [24]), ([24, 25], [24, 25]), ([26, 25, 0, 1, 2, 3, 4, 5, 6, 7, 8, 9, 10, 11, 12, 13, 14, 15, 16, 17, 18, 19, 20, 21, 22, 23, 24, 25, 26], [26])])
def armadalaw07_VerBuilds.B12 : List Nat := [0, 0, 3, 0, 0, 31, 63, 127, 255, 255, 1023, 2047, 4095, 8191, 8191, 32767, 65535, 131071, 262143, 262143, 1048575, 262143, 4194303, 8388607, 16777215, 33554431, 67108863, 134217727]
theorem armadalaw07_VerBuilds.tab12 : rtab .any (opsOf Tryd.f9 12) = armadalaw07_VerBuilds.T12 := by kernel_rfl
theorem armadalaw07_VerBuilds.bits12 : waitsOk armadalaw07_VerBuilds.T12.2 armadalaw07_VerBuilds.B12 = true := by kernel_rfl
set_option maxHeartbeats 8000000 in
set_option maxRecDepth 100000 in
theorem armadalaw07_VerBuilds.calls (k : Nat) (a0_0 : Int) (a0_1 : Int) (a0_2 : Int) (a0_3 : ByteArray) (a0_4 : ByteArray) (a1_0 : Int) (a1_1 : Int) (a1_2 : Int) (a1_3 : ByteArray) (a1_4 : ByteArray) (a2 : Int) (r : Bool) (w : World) (h : armadalaw07_VerBuilds.f k a0_0 a0_1 a0_2 a0_3 a0_4 a1_0 a1_1 a1_2 a1_3 a1_4 a2 = some r) (hT_ : r = true := by rfl) (LW0 : LaidW w) :
    Calls Tryd.prog 9 #[.agg #[.int .i64 a0_0, .int .i64 a0_1, .int .i64 a0_2, .string a0_3, .string a0_4], .agg #[.int .i64 a1_0, .int .i64 a1_1, .int .i64 a1_2, .string a1_3, .string a1_4], .int .i64 a2] w fun e w' => e = .returned (.bool r) ∧ Below w.heap.size w w' := by
  subst hT_
  have LW := Aside0.mk LW0
  clear LW0
  have hu23 := Tryd.underlying23
  have HB := Aside0.mk (Below.refl w.heap.size w)
  have H : (if (wrap64 ((wrap64 ((wrap64 ((a0_3.size : Int) + (a0_4.size : Int))) + (a1_3.size : Int))) + (a1_4.size : Int))) > 400 then (armadalaw07_VerBuilds.j0 k a2 true a0_0 a0_1 a0_2 a0_3 a0_4 a1_0 a1_1 a1_2 a1_3 a1_4) else ((ver_Check.f a0_0 a0_1 a0_2 a0_3 a0_4).bind fun t541 => (if t541 = true then ((ver_Check.f a1_0 a1_1 a1_2 a1_3 a1_4).bind fun t542 => (armadalaw07_VerBuilds.j0 k a2 (!t542) a0_0 a0_1 a0_2 a0_3 a0_4 a1_0 a1_1 a1_2 a1_3 a1_4)) else (armadalaw07_VerBuilds.j0 k a2 true a0_0 a0_1 a0_2 a0_3 a0_4 a1_0 a1_1 a1_2 a1_3 a1_4)))) = some true := h
  clear h
  have HC4 := Aside0.mk H
  clear H
  go_enter Tryd.func9, Tryd.ntmps9
  go_upto_region 1 with (first | ((with_reducible refine gate_dst (N := 3) rfl ?_); refine box_event ?hg (N := 3) ?hd (cs := #[.int .i64 a0_0, .int .i64 a0_1, .int .i64 a0_2, .string a0_3, .string a0_4]) (t := 23) ?hr ?_; (case hd => rfl); (case hg => rfl); (case hr => first | (go_simp; done) | (go_simp; rfl)); intro gb539 hg w5 hbox hb; have n0_ := Aside0.mk (below_step (by repeat (first | (with_reducible first | exact HB.out | apply below_alloc | apply pw_below_drewN | apply below_drew1) | exact HB.out)) hb); have n1_ := Aside0.mk (hbox); have n2_ := Aside0.mk ((by rw [hg]; exact (below_size (by repeat (first | (with_reducible first | exact HB.out | apply below_alloc | apply pw_below_drewN | apply below_drew1) | exact HB.out))) : w.heap.size ≤ gb539)); have n3_ := Aside0.mk ((by rw [hg]; exact (below_size (by repeat (first | (with_reducible first | exact HB.out | apply below_alloc | apply pw_below_drewN | apply below_drew1) | exact HB.out))) : w.heap.size ≤ gb539)); clear HB; have HB := n0_; have BK539 := n1_; have GW539 := n2_; have GE539 := n3_; clear n0_ n1_ n2_ n3_; clear hb hbox hg) | ((with_reducible refine gate_dst (N := 4) rfl ?_); refine box_event ?hg (N := 4) ?hd (cs := #[.int .i64 a1_0, .int .i64 a1_1, .int .i64 a1_2, .string a1_3, .string a1_4]) (t := 23) ?hr ?_; (case hd => rfl); (case hg => rfl); (case hr => first | (go_simp; done) | (go_simp; rfl)); intro gb540 hg w6 hbox hb; have n0_ := Aside0.mk (blk_below (g := gb539) (o := .cells #[.int .i64 a0_0, .int .i64 a0_1, .int .i64 a0_2, .string a0_3, .string a0_4] 23 (0, 0)) (by (with_reducible repeat (first | refine blk_drewN ?_ _ | refine blk_drew ?_ | refine blk_alloc ?_ _)); exact BK539.out) hb); have n1_ := Aside0.mk (below_step (by repeat (first | (with_reducible first | exact HB.out | apply below_alloc | apply pw_below_drewN | apply below_drew1 | refine below_set ?_ GE539.out) | exact HB.out)) hb); have n2_ := Aside0.mk (hbox); have n3_ := Aside0.mk ((by rw [hg]; exact (below_size (by repeat (first | (with_reducible first | exact HB.out | apply below_alloc | apply pw_below_drewN | apply below_drew1 | refine below_set ?_ GE539.out) | exact HB.out))) : w.heap.size ≤ gb540)); have n4_ := Aside0.mk ((by rw [hg]; exact (below_size (by repeat (first | (with_reducible first | exact HB.out | apply below_alloc | apply pw_below_drewN | apply below_drew1 | refine below_set ?_ GE539.out) | exact HB.out))) : w.heap.size ≤ gb540)); have n5_ := Aside0.mk ((by rw [hg]; exact Nat.ne_of_lt (blk_lt (g := gb539) (o := .cells #[.int .i64 a0_0, .int .i64 a0_1, .int .i64 a0_2, .string a0_3, .string a0_4] 23 (0, 0)) (by (with_reducible repeat (first | refine blk_drewN ?_ _ | refine blk_drew ?_ | refine blk_alloc ?_ _)); exact BK539.out)) : gb539 ≠ gb540)); have n6_ := Aside0.mk ((by rw [hg]; exact Nat.ne_of_gt (blk_lt (g := gb539) (o := .cells #[.int .i64 a0_0, .int .i64 a0_1, .int .i64 a0_2, .string a0_3, .string a0_4] 23 (0, 0)) (by (with_reducible repeat (first | refine blk_drewN ?_ _ | refine blk_drew ?_ | refine blk_alloc ?_ _)); exact BK539.out)) : gb540 ≠ gb539)); clear BK539; clear HB; have BK539 := n0_; have HB := n1_; have BK540 := n2_; have GW540 := n3_; have GE540 := n4_; have NB539_540 := n5_; have NB540_539 := n6_; clear n0_ n1_ n2_ n3_ n4_ n5_ n6_; clear hb hbox hg))
  (try simp only [Act.put, List.setIfInBounds_toArray, List.set_cons_zero, List.set_cons_succ])
  go_cut [39] (fun v39 wc => ∃ (kq : Nat) (x39_3 : Bool), v39 = .bool x39_3 ∧ Aside0 (armadalaw07_VerBuilds.j0 kq a2 x39_3 a0_0 a0_1 a0_2 a0_3 a0_4 a1_0 a1_1 a1_2 a1_3 a1_4 = some true) ∧ Aside0 (kq ≤ k) ∧ Aside0 (wc.heap[gb539]? = some (.cells #[.int .i64 a0_0, .int .i64 a0_1, .int .i64 a0_2, .string a0_3, .string a0_4] 23 (0, 0))) ∧ Aside0 (wc.heap[gb540]? = some (.cells #[.int .i64 a1_0, .int .i64 a1_1, .int .i64 a1_2, .string a1_3, .string a1_4] 23 (0, 0))) ∧ Aside0 (Below w.heap.size w wc))
  case first =>
    have H := HC4.out
    clear HC4
    by_cases c7 : (wrap64 ((wrap64 ((wrap64 ((a0_3.size : Int) + (a0_4.size : Int))) + (a1_3.size : Int))) + (a1_4.size : Int))) > 400
    · rw [if_pos c7] at H
      have c7b0 : decide (400 < (wrap64 ((wrap64 ((wrap64 ((a0_3.size : Int) + (a0_4.size : Int))) + (a1_3.size : Int))) + (a1_4.size : Int)))) = true := decide_eq_true c7
      clear c7
      (first | rw [c7b0] | (simp only [i64_w, i32_w]; rw [c7b0]) | skip)
      have H' := Aside0.mk H
      clear H
      have hnb8 := NB539_540.out
      have hnc8 := NB540_539.out
      have hcz9_0 : w6.cell? ⟨gb539, 0, none⟩ = some (.int .i64 a0_0) := (blk_cell BK539.out 0).trans rfl
      have hcz9_1 : w6.cell? ⟨gb539, 1, none⟩ = some (.int .i64 a0_1) := (blk_cell BK539.out 1).trans rfl
      have hcz9_2 : w6.cell? ⟨gb539, 2, none⟩ = some (.int .i64 a0_2) := (blk_cell BK539.out 2).trans rfl
      have hcz9_3 : w6.cell? ⟨gb539, 3, none⟩ = some (.string a0_3) := (blk_cell BK539.out 3).trans rfl
      have hcz9_4 : w6.cell? ⟨gb539, 4, none⟩ = some (.string a0_4) := (blk_cell BK539.out 4).trans rfl
      have hfz9_0 := blk_frozen BK539.out 0
      have hfz9_1 := blk_frozen BK539.out 1
      have hfz9_2 := blk_frozen BK539.out 2
      have hfz9_3 := blk_frozen BK539.out 3
      have hfz9_4 := blk_frozen BK539.out 4
      have hcz10_0 : w6.cell? ⟨gb540, 0, none⟩ = some (.int .i64 a1_0) := (blk_cell BK540.out 0).trans rfl
      have hcz10_1 : w6.cell? ⟨gb540, 1, none⟩ = some (.int .i64 a1_1) := (blk_cell BK540.out 1).trans rfl
      have hcz10_2 : w6.cell? ⟨gb540, 2, none⟩ = some (.int .i64 a1_2) := (blk_cell BK540.out 2).trans rfl
      have hcz10_3 : w6.cell? ⟨gb540, 3, none⟩ = some (.string a1_3) := (blk_cell BK540.out 3).trans rfl
      have hcz10_4 : w6.cell? ⟨gb540, 4, none⟩ = some (.string a1_4) := (blk_cell BK540.out 4).trans rfl
      have hfz10_0 := blk_frozen BK540.out 0
      have hfz10_1 := blk_frozen BK540.out 1
      have hfz10_2 := blk_frozen BK540.out 2
      have hfz10_3 := blk_frozen BK540.out 3
      have hfz10_4 := blk_frozen BK540.out 4
      go_wp2
      go_meet
      case rel => exact ⟨_, (true), (by first | rfl | (simp; done) | (simp [*]; done)), H', ⟨by first | omega | exact Nat.le_refl _⟩, ⟨by (with_reducible repeat (first | refine blk_drewN ?_ _ | refine blk_drew ?_ | refine blk_alloc ?_ _)); exact BK539.out⟩, ⟨by (with_reducible repeat (first | refine blk_drewN ?_ _ | refine blk_drew ?_ | refine blk_alloc ?_ _)); exact BK540.out⟩, ⟨by repeat (first | (with_reducible first | exact HB.out | apply below_alloc | apply pw_below_drewN | apply below_drew1 | refine below_set ?_ GE539.out | refine below_set ?_ GE540.out) | exact HB.out)⟩⟩
    · rw [if_neg c7] at H
      have c7b0 : decide (400 < (wrap64 ((wrap64 ((wrap64 ((a0_3.size : Int) + (a0_4.size : Int))) + (a1_3.size : Int))) + (a1_4.size : Int)))) = false := decide_eq_false c7
      clear c7
      (first | rw [c7b0] | (simp only [i64_w, i32_w]; rw [c7b0]) | skip)
      replace H := Option.bind_eq_some_iff.mp H
      obtain ⟨t541, A110, H⟩ := H
      replace H : (if t541 = true then ((ver_Check.f a1_0 a1_1 a1_2 a1_3 a1_4).bind fun t542 => (armadalaw07_VerBuilds.j0 k a2 (!t542) a0_0 a0_1 a0_2 a0_3 a0_4 a1_0 a1_1 a1_2 a1_3 a1_4)) else (armadalaw07_VerBuilds.j0 k a2 true a0_0 a0_1 a0_2 a0_3 a0_4 a1_0 a1_1 a1_2 a1_3 a1_4)) = some true := H
      have A11 := Aside0.mk A110
      clear A110
      by_cases c12 : t541 = true
      · subst c12
        have H1 : ((ver_Check.f a1_0 a1_1 a1_2 a1_3 a1_4).bind fun t542 => (armadalaw07_VerBuilds.j0 k a2 (!t542) a0_0 a0_1 a0_2 a0_3 a0_4 a1_0 a1_1 a1_2 a1_3 a1_4)) = some true := by rw [if_pos rfl] at H; exact H
        clear H
        have H := H1
        clear H1
        replace H := Option.bind_eq_some_iff.mp H
        obtain ⟨t542, A130, H⟩ := H
        replace H : (armadalaw07_VerBuilds.j0 k a2 (!t542) a0_0 a0_1 a0_2 a0_3 a0_4 a1_0 a1_1 a1_2 a1_3 a1_4) = some true := H
        have A13 := Aside0.mk A130
        clear A130
        have H' := Aside0.mk H
        clear H
        have hnb14 := NB539_540.out
        have hnc14 := NB540_539.out
        have hcz15_0 : w6.cell? ⟨gb539, 0, none⟩ = some (.int .i64 a0_0) := (blk_cell BK539.out 0).trans rfl
        have hcz15_1 : w6.cell? ⟨gb539, 1, none⟩ = some (.int .i64 a0_1) := (blk_cell BK539.out 1).trans rfl
        have hcz15_2 : w6.cell? ⟨gb539, 2, none⟩ = some (.int .i64 a0_2) := (blk_cell BK539.out 2).trans rfl
        have hcz15_3 : w6.cell? ⟨gb539, 3, none⟩ = some (.string a0_3) := (blk_cell BK539.out 3).trans rfl
        have hcz15_4 : w6.cell? ⟨gb539, 4, none⟩ = some (.string a0_4) := (blk_cell BK539.out 4).trans rfl
        have hfz15_0 := blk_frozen BK539.out 0
        have hfz15_1 := blk_frozen BK539.out 1
        have hfz15_2 := blk_frozen BK539.out 2
        have hfz15_3 := blk_frozen BK539.out 3
        have hfz15_4 := blk_frozen BK539.out 4
        have hcz16_0 : w6.cell? ⟨gb540, 0, none⟩ = some (.int .i64 a1_0) := (blk_cell BK540.out 0).trans rfl
        have hcz16_1 : w6.cell? ⟨gb540, 1, none⟩ = some (.int .i64 a1_1) := (blk_cell BK540.out 1).trans rfl
        have hcz16_2 : w6.cell? ⟨gb540, 2, none⟩ = some (.int .i64 a1_2) := (blk_cell BK540.out 2).trans rfl
        have hcz16_3 : w6.cell? ⟨gb540, 3, none⟩ = some (.string a1_3) := (blk_cell BK540.out 3).trans rfl
        have hcz16_4 : w6.cell? ⟨gb540, 4, none⟩ = some (.string a1_4) := (blk_cell BK540.out 4).trans rfl
        have hfz16_0 := blk_frozen BK540.out 0
        have hfz16_1 := blk_frozen BK540.out 1
        have hfz16_2 := blk_frozen BK540.out 2
        have hfz16_3 := blk_frozen BK540.out 3
        have hfz16_4 := blk_frozen BK540.out 4
        go_wp2_with (first | (go_at_call 13; (with_reducible refine (ver_Check.calls a0_0 a0_1 a0_2 a0_3 a0_4 true _ A11.out).mono ?_); rintro e w17 ⟨rfl, hb⟩; have n0_ := Aside0.mk (blk_below (g := gb539) (o := .cells #[.int .i64 a0_0, .int .i64 a0_1, .int .i64 a0_2, .string a0_3, .string a0_4] 23 (0, 0)) (by (with_reducible repeat (first | refine blk_drewN ?_ _ | refine blk_drew ?_ | refine blk_alloc ?_ _)); exact BK539.out) hb); have n1_ := Aside0.mk (blk_below (g := gb540) (o := .cells #[.int .i64 a1_0, .int .i64 a1_1, .int .i64 a1_2, .string a1_3, .string a1_4] 23 (0, 0)) (by (with_reducible repeat (first | refine blk_drewN ?_ _ | refine blk_drew ?_ | refine blk_alloc ?_ _)); exact BK540.out) hb); have n2_ := Aside0.mk (below_step (by repeat (first | (with_reducible first | exact HB.out | apply below_alloc | apply pw_below_drewN | apply below_drew1 | refine below_set ?_ GE539.out | refine below_set ?_ GE540.out) | exact HB.out)) hb); clear BK539; clear BK540; clear HB; have BK539 := n0_; have BK540 := n1_; have HB := n2_; clear n0_ n1_ n2_; (try clear hb); (try clear hb2); (try clear hk); (try clear hi); have hcz18_0 : w17.cell? ⟨gb540, 0, none⟩ = some (.int .i64 a1_0) := (blk_cell BK540.out 0).trans rfl; have hcz18_1 : w17.cell? ⟨gb540, 1, none⟩ = some (.int .i64 a1_1) := (blk_cell BK540.out 1).trans rfl; have hcz18_2 : w17.cell? ⟨gb540, 2, none⟩ = some (.int .i64 a1_2) := (blk_cell BK540.out 2).trans rfl; have hcz18_3 : w17.cell? ⟨gb540, 3, none⟩ = some (.string a1_3) := (blk_cell BK540.out 3).trans rfl; have hcz18_4 : w17.cell? ⟨gb540, 4, none⟩ = some (.string a1_4) := (blk_cell BK540.out 4).trans rfl; have hfz18_0 := blk_frozen BK540.out 0; have hfz18_1 := blk_frozen BK540.out 1; have hfz18_2 := blk_frozen BK540.out 2; have hfz18_3 := blk_frozen BK540.out 3; have hfz18_4 := blk_frozen BK540.out 4) | (go_at_call 13; (with_reducible refine (ver_Check.calls a1_0 a1_1 a1_2 a1_3 a1_4 t542 _ A13.out).mono ?_); rintro e w19 ⟨rfl, hb⟩; have n0_ := Aside0.mk (blk_below (g := gb539) (o := .cells #[.int .i64 a0_0, .int .i64 a0_1, .int .i64 a0_2, .string a0_3, .string a0_4] 23 (0, 0)) (by (with_reducible repeat (first | refine blk_drewN ?_ _ | refine blk_drew ?_ | refine blk_alloc ?_ _)); exact BK539.out) hb); have n1_ := Aside0.mk (blk_below (g := gb540) (o := .cells #[.int .i64 a1_0, .int .i64 a1_1, .int .i64 a1_2, .string a1_3, .string a1_4] 23 (0, 0)) (by (with_reducible repeat (first | refine blk_drewN ?_ _ | refine blk_drew ?_ | refine blk_alloc ?_ _)); exact BK540.out) hb); have n2_ := Aside0.mk (below_step (by repeat (first | (with_reducible first | exact HB.out | apply below_alloc | apply pw_below_drewN | apply below_drew1 | refine below_set ?_ GE539.out | refine below_set ?_ GE540.out) | exact HB.out)) hb); clear BK539; clear BK540; clear HB; have BK539 := n0_; have BK540 := n1_; have HB := n2_; clear n0_ n1_ n2_; (try clear hb); (try clear hb2); (try clear hk); (try clear hi)))
        go_meet
        case rel => exact ⟨_, (!t542), (by first | rfl | (simp; done) | (simp [*]; done)), H', ⟨by first | omega | exact Nat.le_refl _⟩, ⟨by (with_reducible repeat (first | refine blk_drewN ?_ _ | refine blk_drew ?_ | refine blk_alloc ?_ _)); exact BK539.out⟩, ⟨by (with_reducible repeat (first | refine blk_drewN ?_ _ | refine blk_drew ?_ | refine blk_alloc ?_ _)); exact BK540.out⟩, ⟨by repeat (first | (with_reducible first | exact HB.out | apply below_alloc | apply pw_below_drewN | apply below_drew1 | refine below_set ?_ GE539.out | refine below_set ?_ GE540.out) | exact HB.out)⟩⟩
      · replace c12 := Bool.eq_false_iff.mpr c12
        subst c12
        have H1 : (armadalaw07_VerBuilds.j0 k a2 true a0_0 a0_1 a0_2 a0_3 a0_4 a1_0 a1_1 a1_2 a1_3 a1_4) = some true := by rw [if_neg (show ¬ (false = true) by decide)] at H; exact H
        clear H
        have H := H1
        clear H1
        have H' := Aside0.mk H
        clear H
        have hnb20 := NB539_540.out
        have hnc20 := NB540_539.out
        have hcz21_0 : w6.cell? ⟨gb539, 0, none⟩ = some (.int .i64 a0_0) := (blk_cell BK539.out 0).trans rfl
        have hcz21_1 : w6.cell? ⟨gb539, 1, none⟩ = some (.int .i64 a0_1) := (blk_cell BK539.out 1).trans rfl
        have hcz21_2 : w6.cell? ⟨gb539, 2, none⟩ = some (.int .i64 a0_2) := (blk_cell BK539.out 2).trans rfl
        have hcz21_3 : w6.cell? ⟨gb539, 3, none⟩ = some (.string a0_3) := (blk_cell BK539.out 3).trans rfl
        have hcz21_4 : w6.cell? ⟨gb539, 4, none⟩ = some (.string a0_4) := (blk_cell BK539.out 4).trans rfl
        have hfz21_0 := blk_frozen BK539.out 0
        have hfz21_1 := blk_frozen BK539.out 1
        have hfz21_2 := blk_frozen BK539.out 2
        have hfz21_3 := blk_frozen BK539.out 3
        have hfz21_4 := blk_frozen BK539.out 4
        have hcz22_0 : w6.cell? ⟨gb540, 0, none⟩ = some (.int .i64 a1_0) := (blk_cell BK540.out 0).trans rfl
        have hcz22_1 : w6.cell? ⟨gb540, 1, none⟩ = some (.int .i64 a1_1) := (blk_cell BK540.out 1).trans rfl
        have hcz22_2 : w6.cell? ⟨gb540, 2, none⟩ = some (.int .i64 a1_2) := (blk_cell BK540.out 2).trans rfl
        have hcz22_3 : w6.cell? ⟨gb540, 3, none⟩ = some (.string a1_3) := (blk_cell BK540.out 3).trans rfl
        have hcz22_4 : w6.cell? ⟨gb540, 4, none⟩ = some (.string a1_4) := (blk_cell BK540.out 4).trans rfl
        have hfz22_0 := blk_frozen BK540.out 0
        have hfz22_1 := blk_frozen BK540.out 1
        have hfz22_2 := blk_frozen BK540.out 2
        have hfz22_3 := blk_frozen BK540.out 3
        have hfz22_4 := blk_frozen BK540.out 4
        go_wp2_with (first | (go_at_call 13; (with_reducible refine (ver_Check.calls a0_0 a0_1 a0_2 a0_3 a0_4 false _ A11.out).mono ?_); rintro e w23 ⟨rfl, hb⟩; have n0_ := Aside0.mk (blk_below (g := gb539) (o := .cells #[.int .i64 a0_0, .int .i64 a0_1, .int .i64 a0_2, .string a0_3, .string a0_4] 23 (0, 0)) (by (with_reducible repeat (first | refine blk_drewN ?_ _ | refine blk_drew ?_ | refine blk_alloc ?_ _)); exact BK539.out) hb); have n1_ := Aside0.mk (blk_below (g := gb540) (o := .cells #[.int .i64 a1_0, .int .i64 a1_1, .int .i64 a1_2, .string a1_3, .string a1_4] 23 (0, 0)) (by (with_reducible repeat (first | refine blk_drewN ?_ _ | refine blk_drew ?_ | refine blk_alloc ?_ _)); exact BK540.out) hb); have n2_ := Aside0.mk (below_step (by repeat (first | (with_reducible first | exact HB.out | apply below_alloc | apply pw_below_drewN | apply below_drew1 | refine below_set ?_ GE539.out | refine below_set ?_ GE540.out) | exact HB.out)) hb); clear BK539; clear BK540; clear HB; have BK539 := n0_; have BK540 := n1_; have HB := n2_; clear n0_ n1_ n2_; (try clear hb); (try clear hb2); (try clear hk); (try clear hi)))
        go_meet
        case rel => exact ⟨_, (true), (by first | rfl | (simp; done) | (simp [*]; done)), H', ⟨by first | omega | exact Nat.le_refl _⟩, ⟨by (with_reducible repeat (first | refine blk_drewN ?_ _ | refine blk_drew ?_ | refine blk_alloc ?_ _)); exact BK539.out⟩, ⟨by (with_reducible repeat (first | refine blk_drewN ?_ _ | refine blk_drew ?_ | refine blk_alloc ?_ _)); exact BK540.out⟩, ⟨by repeat (first | (with_reducible first | exact HB.out | apply below_alloc | apply pw_below_drewN | apply below_drew1 | refine below_set ?_ GE539.out | refine below_set ?_ GE540.out) | exact HB.out)⟩⟩
  case rest =>
    clear HC4
    try clear c1
    try clear c2
    try clear p2
    try clear p6
    try clear c7
    try clear c7b0
    try clear c8
    try clear c9
    try clear c12
    try clear c14
    try clear c20
    try clear hcz10_0
    try clear hcz10_1
    try clear hcz10_2
    try clear hcz10_3
    try clear hcz10_4
    try clear hcz15_0
    try clear hcz15_1
    try clear hcz15_2
    try clear hcz15_3
    try clear hcz15_4
    try clear hcz16_0
    try clear hcz16_1
    try clear hcz16_2
    try clear hcz16_3
    try clear hcz16_4
    try clear hcz18_0
    try clear hcz18_1
    try clear hcz18_2
    try clear hcz18_3
    try clear hcz18_4
    try clear hcz21_0
    try clear hcz21_1
    try clear hcz21_2
    try clear hcz21_3
    try clear hcz21_4
    try clear hcz22_0
    try clear hcz22_1
    try clear hcz22_2
    try clear hcz22_3
    try clear hcz22_4
    try clear hcz9_0
    try clear hcz9_1
    try clear hcz9_2
    try clear hcz9_3
    try clear hcz9_4
    try clear hfz10_0
    try clear hfz10_1
    try clear hfz10_2
    try clear hfz10_3
    try clear hfz10_4
    try clear hfz15_0
    try clear hfz15_1
    try clear hfz15_2
    try clear hfz15_3
    try clear hfz15_4
    try clear hfz16_0
    try clear hfz16_1
    try clear hfz16_2
    try clear hfz16_3
    try clear hfz16_4
    try clear hfz18_0
    try clear hfz18_1
    try clear hfz18_2
    try clear hfz18_3
    try clear hfz18_4
    try clear hfz21_0
    try clear hfz21_1
    try clear hfz21_2
    try clear hfz21_3
    try clear hfz21_4
    try clear hfz22_0
    try clear hfz22_1
    try clear hfz22_2
    try clear hfz22_3
    try clear hfz22_4
    try clear hfz9_0
    try clear hfz9_1
    try clear hfz9_2
    try clear hfz9_3
    try clear hfz9_4
    obtain ⟨kq, x39_3, rfl, HA, HJ3, BK539, BK540, HB⟩ := hcut
    cases kq with
    | zero => exact absurd HA.out (by simp [armadalaw07_VerBuilds.j0])
    | succ kj3 =>
      have H := HA.out
      clear HA
      simp only [armadalaw07_VerBuilds.j0] at H
      by_cases c24 : x39_3 = true
      · subst c24
        have H1 : ((armadalaw07_live.f kj3).bind fun t543 => (some t543)) = some true := by rw [if_pos rfl] at H; exact H
        clear H
        have H := H1
        clear H1
        replace H := Option.bind_eq_some_iff.mp H
        obtain ⟨t543, A250, H⟩ := H
        replace H : (some t543) = some true := H
        have A25 := Aside0.mk A250
        clear A250
        obtain rfl := Option.some.inj H
        go_wp2_with (first | ((with_reducible refine gate_callee (f := 10) rfl ?_); refine goesL_ (some 40) rfl rfl Tryd.func10 (by kernel_rfl) rfl #[] rfl (by (try simp only [List.map_toArray, List.map_cons, List.map_nil]); first | done | rfl | (simp only [List.length_drop, List.length_take]; rfl)) ?_; (with_reducible refine (armadalaw07_live.calls kj3  true _ A25.out (LW0 := LW.out.below (by repeat (first | (with_reducible first | exact HB.out | apply below_alloc | apply pw_below_drewN | apply below_drew1 | refine below_set ?_ GE539.out | refine below_set ?_ GE540.out) | exact HB.out)))).mono ?_); rintro e w26 ⟨rfl, hb⟩; refine ⟨_, rfl, ?_⟩; have n0_ := Aside0.mk (blk_below (g := gb539) (o := .cells #[.int .i64 a0_0, .int .i64 a0_1, .int .i64 a0_2, .string a0_3, .string a0_4] 23 (0, 0)) (by (with_reducible repeat (first | refine blk_drewN ?_ _ | refine blk_drew ?_ | refine blk_alloc ?_ _)); exact BK539.out) hb); have n1_ := Aside0.mk (blk_below (g := gb540) (o := .cells #[.int .i64 a1_0, .int .i64 a1_1, .int .i64 a1_2, .string a1_3, .string a1_4] 23 (0, 0)) (by (with_reducible repeat (first | refine blk_drewN ?_ _ | refine blk_drew ?_ | refine blk_alloc ?_ _)); exact BK540.out) hb); have n2_ := Aside0.mk (below_step (by repeat (first | (with_reducible first | exact HB.out | apply below_alloc | apply pw_below_drewN | apply below_drew1 | refine below_set ?_ GE539.out | refine below_set ?_ GE540.out) | exact HB.out)) hb); clear BK539; clear BK540; clear HB; have BK539 := n0_; have BK540 := n1_; have HB := n2_; clear n0_ n1_ n2_; (try clear hb); (try clear hb2); (try clear hk); (try clear hi)))
        go_ret
        exact ⟨by first | rfl | (simp [errW_none, errW_some] <;> rfl) | (simp [*, errW_none, errW_some] <;> rfl), by repeat (first | (with_reducible first | exact HB.out | apply below_alloc | apply pw_below_drewN | apply below_drew1 | refine below_set ?_ GE539.out | refine below_set ?_ GE540.out) | exact HB.out)⟩
      · replace c24 := Bool.eq_false_iff.mpr c24
        subst c24
        have H1 : ((ver_Bump.f a0_0 a0_1 a0_2 a0_3 a0_4 a2).bind fun bt546 => ((ver_Bump.f a0_0 a0_1 a0_2 a0_3 (⟨#[]⟩ : ByteArray) a2).bind fun bt553 => (if a0_3.toList = ([] : List UInt8) then (armadalaw07_VerBuilds.j1 kj3 bt546.2.2.2.2.2 bt553.2.2.2.2.2 0 a0_0 a0_1 a0_2 a0_3 a0_4 a1_0 a1_1 a1_2 a1_3 a1_4 a0_0 a0_1 a0_2 a0_3 (⟨#[]⟩ : ByteArray) a0_0 a0_1 a0_2 (⟨#[]⟩ : ByteArray) a0_4 bt546.1 bt546.2.1 bt546.2.2.1 bt546.2.2.2.1 bt546.2.2.2.2.1 bt553.1 bt553.2.1 bt553.2.2.1 bt553.2.2.2.1 bt553.2.2.2.2.1) else (armadalaw07_VerBuilds.j1 kj3 bt546.2.2.2.2.2 bt553.2.2.2.2.2 (-1) a0_0 a0_1 a0_2 a0_3 a0_4 a1_0 a1_1 a1_2 a1_3 a1_4 a0_0 a0_1 a0_2 a0_3 (⟨#[]⟩ : ByteArray) a0_0 a0_1 a0_2 (⟨#[]⟩ : ByteArray) a0_4 bt546.1 bt546.2.1 bt546.2.2.1 bt546.2.2.2.1 bt546.2.2.2.2.1 bt553.1 bt553.2.1 bt553.2.2.1 bt553.2.2.2.1 bt553.2.2.2.2.1)))) = some true := by rw [if_neg (show ¬ (false = true) by decide)] at H; exact H
        clear H
        have H := H1
        clear H1
        replace H := Option.bind_eq_some_iff.mp H
        obtain ⟨⟨t546, t547, t548, t549, t550, t551⟩, A270, H⟩ := H
        replace H : ((ver_Bump.f a0_0 a0_1 a0_2 a0_3 (⟨#[]⟩ : ByteArray) a2).bind fun bt553 => (if a0_3.toList = ([] : List UInt8) then (armadalaw07_VerBuilds.j1 kj3 t551 bt553.2.2.2.2.2 0 a0_0 a0_1 a0_2 a0_3 a0_4 a1_0 a1_1 a1_2 a1_3 a1_4 a0_0 a0_1 a0_2 a0_3 (⟨#[]⟩ : ByteArray) a0_0 a0_1 a0_2 (⟨#[]⟩ : ByteArray) a0_4 t546 t547 t548 t549 t550 bt553.1 bt553.2.1 bt553.2.2.1 bt553.2.2.2.1 bt553.2.2.2.2.1) else (armadalaw07_VerBuilds.j1 kj3 t551 bt553.2.2.2.2.2 (-1) a0_0 a0_1 a0_2 a0_3 a0_4 a1_0 a1_1 a1_2 a1_3 a1_4 a0_0 a0_1 a0_2 a0_3 (⟨#[]⟩ : ByteArray) a0_0 a0_1 a0_2 (⟨#[]⟩ : ByteArray) a0_4 t546 t547 t548 t549 t550 bt553.1 bt553.2.1 bt553.2.2.1 bt553.2.2.2.1 bt553.2.2.2.2.1))) = some true := H
        have A27 := Aside0.mk A270
        clear A270
        replace H := Option.bind_eq_some_iff.mp H
        obtain ⟨⟨t553, t554, t555, t556, t557, t558⟩, A280, H⟩ := H
        replace H : (if a0_3.toList = ([] : List UInt8) then (armadalaw07_VerBuilds.j1 kj3 t551 t558 0 a0_0 a0_1 a0_2 a0_3 a0_4 a1_0 a1_1 a1_2 a1_3 a1_4 a0_0 a0_1 a0_2 a0_3 (⟨#[]⟩ : ByteArray) a0_0 a0_1 a0_2 (⟨#[]⟩ : ByteArray) a0_4 t546 t547 t548 t549 t550 t553 t554 t555 t556 t557) else (armadalaw07_VerBuilds.j1 kj3 t551 t558 (-1) a0_0 a0_1 a0_2 a0_3 a0_4 a1_0 a1_1 a1_2 a1_3 a1_4 a0_0 a0_1 a0_2 a0_3 (⟨#[]⟩ : ByteArray) a0_0 a0_1 a0_2 (⟨#[]⟩ : ByteArray) a0_4 t546 t547 t548 t549 t550 t553 t554 t555 t556 t557)) = some true := H
        have A28 := Aside0.mk A280
        clear A280
        have HC29 := Aside0.mk H
        clear H
        have hnb30 := NB539_540.out
        have hnc30 := NB540_539.out
        have hcz31_0 : wc.cell? ⟨gb539, 0, none⟩ = some (.int .i64 a0_0) := (blk_cell BK539.out 0).trans rfl
        have hcz31_1 : wc.cell? ⟨gb539, 1, none⟩ = some (.int .i64 a0_1) := (blk_cell BK539.out 1).trans rfl
        have hcz31_2 : wc.cell? ⟨gb539, 2, none⟩ = some (.int .i64 a0_2) := (blk_cell BK539.out 2).trans rfl
        have hcz31_3 : wc.cell? ⟨gb539, 3, none⟩ = some (.string a0_3) := (blk_cell BK539.out 3).trans rfl
        have hcz31_4 : wc.cell? ⟨gb539, 4, none⟩ = some (.string a0_4) := (blk_cell BK539.out 4).trans rfl
        have hfz31_0 := blk_frozen BK539.out 0
        have hfz31_1 := blk_frozen BK539.out 1
        have hfz31_2 := blk_frozen BK539.out 2
        have hfz31_3 := blk_frozen BK539.out 3
        have hfz31_4 := blk_frozen BK539.out 4
        go_upto_if 59 with (first | ((with_reducible refine gate_dst (N := 7) rfl ?_); refine box_event ?hg (N := 7) ?hd (cs := #[.int .i64 0, .int .i64 0, .int .i64 0, .string (⟨#[]⟩ : ByteArray), .string (⟨#[]⟩ : ByteArray)]) (t := 23) ?hr ?_; (case hd => rfl); (case hg => rfl); (case hr => first | (go_simp; done) | (go_simp; rfl)); intro gb544 hg w32 hbox hb; have n0_ := Aside0.mk (blk_below (g := gb539) (o := .cells #[.int .i64 a0_0, .int .i64 a0_1, .int .i64 a0_2, .string a0_3, .string a0_4] 23 (0, 0)) (by (with_reducible repeat (first | refine blk_drewN ?_ _ | refine blk_drew ?_ | refine blk_alloc ?_ _)); exact BK539.out) hb); have n1_ := Aside0.mk (blk_below (g := gb540) (o := .cells #[.int .i64 a1_0, .int .i64 a1_1, .int .i64 a1_2, .string a1_3, .string a1_4] 23 (0, 0)) (by (with_reducible repeat (first | refine blk_drewN ?_ _ | refine blk_drew ?_ | refine blk_alloc ?_ _)); exact BK540.out) hb); have n2_ := Aside0.mk (below_step (by repeat (first | (with_reducible first | exact HB.out | apply below_alloc | apply pw_below_drewN | apply below_drew1 | refine below_set ?_ GE539.out | refine below_set ?_ GE540.out) | exact HB.out)) hb); have n3_ := Aside0.mk (hbox); have n4_ := Aside0.mk ((by rw [hg]; exact (below_size (by repeat (first | (with_reducible first | exact HB.out | apply below_alloc | apply pw_below_drewN | apply below_drew1 | refine below_set ?_ GE539.out | refine below_set ?_ GE540.out) | exact HB.out))) : w.heap.size ≤ gb544)); have n5_ := Aside0.mk ((by rw [hg]; exact (below_size (by repeat (first | (with_reducible first | exact HB.out | apply below_alloc | apply pw_below_drewN | apply below_drew1 | refine below_set ?_ GE539.out | refine below_set ?_ GE540.out) | exact HB.out))) : w.heap.size ≤ gb544)); have n6_ := Aside0.mk ((by rw [hg]; exact Nat.ne_of_lt (blk_lt (g := gb539) (o := .cells #[.int .i64 a0_0, .int .i64 a0_1, .int .i64 a0_2, .string a0_3, .string a0_4] 23 (0, 0)) (by (with_reducible repeat (first | refine blk_drewN ?_ _ | refine blk_drew ?_ | refine blk_alloc ?_ _)); exact BK539.out)) : gb539 ≠ gb544)); have n7_ := Aside0.mk ((by rw [hg]; exact Nat.ne_of_gt (blk_lt (g := gb539) (o := .cells #[.int .i64 a0_0, .int .i64 a0_1, .int .i64 a0_2, .string a0_3, .string a0_4] 23 (0, 0)) (by (with_reducible repeat (first | refine blk_drewN ?_ _ | refine blk_drew ?_ | refine blk_alloc ?_ _)); exact BK539.out)) : gb544 ≠ gb539)); have n8_ := Aside0.mk ((by rw [hg]; exact Nat.ne_of_lt (blk_lt (g := gb540) (o := .cells #[.int .i64 a1_0, .int .i64 a1_1, .int .i64 a1_2, .string a1_3, .string a1_4] 23 (0, 0)) (by (with_reducible repeat (first | refine blk_drewN ?_ _ | refine blk_drew ?_ | refine blk_alloc ?_ _)); exact BK540.out)) : gb540 ≠ gb544)); have n9_ := Aside0.mk ((by rw [hg]; exact Nat.ne_of_gt (blk_lt (g := gb540) (o := .cells #[.int .i64 a1_0, .int .i64 a1_1, .int .i64 a1_2, .string a1_3, .string a1_4] 23 (0, 0)) (by (with_reducible repeat (first | refine blk_drewN ?_ _ | refine blk_drew ?_ | refine blk_alloc ?_ _)); exact BK540.out)) : gb544 ≠ gb540)); clear BK539; clear BK540; clear HB; have BK539 := n0_; have BK540 := n1_; have HB := n2_; have BK544 := n3_; have GW544 := n4_; have GE544 := n5_; have NB539_544 := n6_; have NB544_539 := n7_; have NB540_544 := n8_; have NB544_540 := n9_; clear n0_ n1_ n2_ n3_ n4_ n5_ n6_ n7_ n8_ n9_; clear hb hbox hg; have hnb33 := NB544_539.out; have hnc33 := NB539_544.out; have hnb34 := NB544_540.out; have hnc34 := NB540_544.out; have hcz35_0 : w32.cell? ⟨gb544, 0, none⟩ = some (.int .i64 0) := (blk_cell BK544.out 0).trans rfl; have hcz35_1 : w32.cell? ⟨gb544, 1, none⟩ = some (.int .i64 0) := (blk_cell BK544.out 1).trans rfl; have hcz35_2 : w32.cell? ⟨gb544, 2, none⟩ = some (.int .i64 0) := (blk_cell BK544.out 2).trans rfl; have hcz35_3 : w32.cell? ⟨gb544, 3, none⟩ = some (.string (⟨#[]⟩ : ByteArray)) := (blk_cell BK544.out 3).trans rfl; have hcz35_4 : w32.cell? ⟨gb544, 4, none⟩ = some (.string (⟨#[]⟩ : ByteArray)) := (blk_cell BK544.out 4).trans rfl; have hfz35_0 := blk_frozen BK544.out 0; have hfz35_1 := blk_frozen BK544.out 1; have hfz35_2 := blk_frozen BK544.out 2; have hfz35_3 := blk_frozen BK544.out 3; have hfz35_4 := blk_frozen BK544.out 4; have hcz36_0 : w32.cell? ⟨gb539, 0, none⟩ = some (.int .i64 a0_0) := (blk_cell BK539.out 0).trans rfl; have hcz36_1 : w32.cell? ⟨gb539, 1, none⟩ = some (.int .i64 a0_1) := (blk_cell BK539.out 1).trans rfl; have hcz36_2 : w32.cell? ⟨gb539, 2, none⟩ = some (.int .i64 a0_2) := (blk_cell BK539.out 2).trans rfl; have hcz36_3 : w32.cell? ⟨gb539, 3, none⟩ = some (.string a0_3) := (blk_cell BK539.out 3).trans rfl; have hcz36_4 : w32.cell? ⟨gb539, 4, none⟩ = some (.string a0_4) := (blk_cell BK539.out 4).trans rfl; have hfz36_0 := blk_frozen BK539.out 0; have hfz36_1 := blk_frozen BK539.out 1; have hfz36_2 := blk_frozen BK539.out 2; have hfz36_3 := blk_frozen BK539.out 3; have hfz36_4 := blk_frozen BK539.out 4) | ((with_reducible refine gate_dst (N := 8) rfl ?_); refine box_event ?hg (N := 8) ?hd (cs := #[.int .i64 0, .int .i64 0, .int .i64 0, .string (⟨#[]⟩ : ByteArray), .string (⟨#[]⟩ : ByteArray)]) (t := 23) ?hr ?_; (case hd => rfl); (case hg => rfl); (case hr => first | (go_simp; done) | (go_simp; rfl)); intro gb545 hg w37 hbox hb; have n0_ := Aside0.mk (blk_below (g := gb539) (o := .cells #[.int .i64 a0_0, .int .i64 a0_1, .int .i64 a0_2, .string a0_3, .string a0_4] 23 (0, 0)) (by (with_reducible repeat (first | refine blk_drewN ?_ _ | refine blk_drew ?_ | refine blk_alloc ?_ _)); refine blk_far ?_ NB539_544.out _; (with_reducible repeat (first | refine blk_drewN ?_ _ | refine blk_drew ?_ | refine blk_alloc ?_ _)); refine blk_far ?_ NB539_544.out _; (with_reducible repeat (first | refine blk_drewN ?_ _ | refine blk_drew ?_ | refine blk_alloc ?_ _)); refine blk_far ?_ NB539_544.out _; (with_reducible repeat (first | refine blk_drewN ?_ _ | refine blk_drew ?_ | refine blk_alloc ?_ _)); refine blk_far ?_ NB539_544.out _; (with_reducible repeat (first | refine blk_drewN ?_ _ | refine blk_drew ?_ | refine blk_alloc ?_ _)); refine blk_far ?_ NB539_544.out _; (with_reducible repeat (first | refine blk_drewN ?_ _ | refine blk_drew ?_ | refine blk_alloc ?_ _)); refine blk_far ?_ NB539_544.out _; (with_reducible repeat (first | refine blk_drewN ?_ _ | refine blk_drew ?_ | refine blk_alloc ?_ _)); exact BK539.out) hb); have n1_ := Aside0.mk (blk_below (g := gb540) (o := .cells #[.int .i64 a1_0, .int .i64 a1_1, .int .i64 a1_2, .string a1_3, .string a1_4] 23 (0, 0)) (by (with_reducible repeat (first | refine blk_drewN ?_ _ | refine blk_drew ?_ | refine blk_alloc ?_ _)); refine blk_far ?_ NB540_544.out _; (with_reducible repeat (first | refine blk_drewN ?_ _ | refine blk_drew ?_ | refine blk_alloc ?_ _)); refine blk_far ?_ NB540_544.out _; (with_reducible repeat (first | refine blk_drewN ?_ _ | refine blk_drew ?_ | refine blk_alloc ?_ _)); refine blk_far ?_ NB540_544.out _; (with_reducible repeat (first | refine blk_drewN ?_ _ | refine blk_drew ?_ | refine blk_alloc ?_ _)); refine blk_far ?_ NB540_544.out _; (with_reducible repeat (first | refine blk_drewN ?_ _ | refine blk_drew ?_ | refine blk_alloc ?_ _)); refine blk_far ?_ NB540_544.out _; (with_reducible repeat (first | refine blk_drewN ?_ _ | refine blk_drew ?_ | refine blk_alloc ?_ _)); refine blk_far ?_ NB540_544.out _; (with_reducible repeat (first | refine blk_drewN ?_ _ | refine blk_drew ?_ | refine blk_alloc ?_ _)); exact BK540.out) hb); have n2_ := Aside0.mk (blk_below (g := gb544) (o := .cells #[.int .i64 a0_0, .int .i64 a0_1, .int .i64 a0_2, .string a0_3, .string (⟨#[]⟩ : ByteArray)] 23 (0, 0)) (by (with_reducible repeat (first | refine blk_drewN ?_ _ | refine blk_drew ?_ | refine blk_alloc ?_ _)); refine blk_put (cs := #[.int .i64 a0_0, .int .i64 a0_1, .int .i64 a0_2, .string a0_3, .string a0_4]) ?_ 4 _ rfl; (with_reducible repeat (first | refine blk_drewN ?_ _ | refine blk_drew ?_ | refine blk_alloc ?_ _)); refine blk_put (cs := #[.int .i64 a0_0, .int .i64 a0_1, .int .i64 a0_2, .string a0_3, .string (⟨#[]⟩ : ByteArray)]) ?_ 4 _ rfl; (with_reducible repeat (first | refine blk_drewN ?_ _ | refine blk_drew ?_ | refine blk_alloc ?_ _)); refine blk_put (cs := #[.int .i64 a0_0, .int .i64 a0_1, .int .i64 a0_2, .string (⟨#[]⟩ : ByteArray), .string (⟨#[]⟩ : ByteArray)]) ?_ 3 _ rfl; (with_reducible repeat (first | refine blk_drewN ?_ _ | refine blk_drew ?_ | refine blk_alloc ?_ _)); refine blk_put (cs := #[.int .i64 a0_0, .int .i64 a0_1, .int .i64 0, .string (⟨#[]⟩ : ByteArray), .string (⟨#[]⟩ : ByteArray)]) ?_ 2 _ rfl; (with_reducible repeat (first | refine blk_drewN ?_ _ | refine blk_drew ?_ | refine blk_alloc ?_ _)); refine blk_put (cs := #[.int .i64 a0_0, .int .i64 0, .int .i64 0, .string (⟨#[]⟩ : ByteArray), .string (⟨#[]⟩ : ByteArray)]) ?_ 1 _ rfl; (with_reducible repeat (first | refine blk_drewN ?_ _ | refine blk_drew ?_ | refine blk_alloc ?_ _)); refine blk_put (cs := #[.int .i64 0, .int .i64 0, .int .i64 0, .string (⟨#[]⟩ : ByteArray), .string (⟨#[]⟩ : ByteArray)]) ?_ 0 _ rfl; (with_reducible repeat (first | refine blk_drewN ?_ _ | refine blk_drew ?_ | refine blk_alloc ?_ _)); exact BK544.out) hb); have n3_ := Aside0.mk (below_step (by repeat (first | (with_reducible first | exact HB.out | apply below_alloc | apply pw_below_drewN | apply below_drew1 | refine below_set ?_ GE539.out | refine below_set ?_ GE540.out | refine below_set ?_ GE544.out) | exact HB.out)) hb); have n4_ := Aside0.mk (hbox); have n5_ := Aside0.mk ((by rw [hg]; exact (below_size (by repeat (first | (with_reducible first | exact HB.out | apply below_alloc | apply pw_below_drewN | apply below_drew1 | refine below_set ?_ GE539.out | refine below_set ?_ GE540.out | refine below_set ?_ GE544.out) | exact HB.out))) : w.heap.size ≤ gb545)); have n6_ := Aside0.mk ((by rw [hg]; exact (below_size (by repeat (first | (with_reducible first | exact HB.out | apply below_alloc | apply pw_below_drewN | apply below_drew1 | refine below_set ?_ GE539.out | refine below_set ?_ GE540.out | refine below_set ?_ GE544.out) | exact HB.out))) : w.heap.size ≤ gb545)); have n7_ := Aside0.mk ((by rw [hg]; exact Nat.ne_of_lt (blk_lt (g := gb539) (o := .cells #[.int .i64 a0_0, .int .i64 a0_1, .int .i64 a0_2, .string a0_3, .string a0_4] 23 (0, 0)) (by (with_reducible repeat (first | refine blk_drewN ?_ _ | refine blk_drew ?_ | refine blk_alloc ?_ _)); refine blk_far ?_ NB539_544.out _; (with_reducible repeat (first | refine blk_drewN ?_ _ | refine blk_drew ?_ | refine blk_alloc ?_ _)); refine blk_far ?_ NB539_544.out _; (with_reducible repeat (first | refine blk_drewN ?_ _ | refine blk_drew ?_ | refine blk_alloc ?_ _)); refine blk_far ?_ NB539_544.out _; (with_reducible repeat (first | refine blk_drewN ?_ _ | refine blk_drew ?_ | refine blk_alloc ?_ _)); refine blk_far ?_ NB539_544.out _; (with_reducible repeat (first | refine blk_drewN ?_ _ | refine blk_drew ?_ | refine blk_alloc ?_ _)); refine blk_far ?_ NB539_544.out _; (with_reducible repeat (first | refine blk_drewN ?_ _ | refine blk_drew ?_ | refine blk_alloc ?_ _)); refine blk_far ?_ NB539_544.out _; (with_reducible repeat (first | refine blk_drewN ?_ _ | refine blk_drew ?_ | refine blk_alloc ?_ _)); exact BK539.out)) : gb539 ≠ gb545)); have n8_ := Aside0.mk ((by rw [hg]; exact Nat.ne_of_gt (blk_lt (g := gb539) (o := .cells #[.int .i64 a0_0, .int .i64 a0_1, .int .i64 a0_2, .string a0_3, .string a0_4] 23 (0, 0)) (by (with_reducible repeat (first | refine blk_drewN ?_ _ | refine blk_drew ?_ | refine blk_alloc ?_ _)); refine blk_far ?_ NB539_544.out _; (with_reducible repeat (first | refine blk_drewN ?_ _ | refine blk_drew ?_ | refine blk_alloc ?_ _)); refine blk_far ?_ NB539_544.out _; (with_reducible repeat (first | refine blk_drewN ?_ _ | refine blk_drew ?_ | refine blk_alloc ?_ _)); refine blk_far ?_ NB539_544.out _; (with_reducible repeat (first | refine blk_drewN ?_ _ | refine blk_drew ?_ | refine blk_alloc ?_ _)); refine blk_far ?_ NB539_544.out _; (with_reducible repeat (first | refine blk_drewN ?_ _ | refine blk_drew ?_ | refine blk_alloc ?_ _)); refine blk_far ?_ NB539_544.out _; (with_reducible repeat (first | refine blk_drewN ?_ _ | refine blk_drew ?_ | refine blk_alloc ?_ _)); refine blk_far ?_ NB539_544.out _; (with_reducible repeat (first | refine blk_drewN ?_ _ | refine blk_drew ?_ | refine blk_alloc ?_ _)); exact BK539.out)) : gb545 ≠ gb539)); have n9_ := Aside0.mk ((by rw [hg]; exact Nat.ne_of_lt (blk_lt (g := gb540) (o := .cells #[.int .i64 a1_0, .int .i64 a1_1, .int .i64 a1_2, .string a1_3, .string a1_4] 23 (0, 0)) (by (with_reducible repeat (first | refine blk_drewN ?_ _ | refine blk_drew ?_ | refine blk_alloc ?_ _)); refine blk_far ?_ NB540_544.out _; (with_reducible repeat (first | refine blk_drewN ?_ _ | refine blk_drew ?_ | refine blk_alloc ?_ _)); refine blk_far ?_ NB540_544.out _; (with_reducible repeat (first | refine blk_drewN ?_ _ | refine blk_drew ?_ | refine blk_alloc ?_ _)); refine blk_far ?_ NB540_544.out _; (with_reducible repeat (first | refine blk_drewN ?_ _ | refine blk_drew ?_ | refine blk_alloc ?_ _)); refine blk_far ?_ NB540_544.out _; (with_reducible repeat (first | refine blk_drewN ?_ _ | refine blk_drew ?_ | refine blk_alloc ?_ _)); refine blk_far ?_ NB540_544.out _; (with_reducible repeat (first | refine blk_drewN ?_ _ | refine blk_drew ?_ | refine blk_alloc ?_ _)); refine blk_far ?_ NB540_544.out _; (with_reducible repeat (first | refine blk_drewN ?_ _ | refine blk_drew ?_ | refine blk_alloc ?_ _)); exact BK540.out)) : gb540 ≠ gb545)); have n10_ := Aside0.mk ((by rw [hg]; exact Nat.ne_of_gt (blk_lt (g := gb540) (o := .cells #[.int .i64 a1_0, .int .i64 a1_1, .int .i64 a1_2, .string a1_3, .string a1_4] 23 (0, 0)) (by (with_reducible repeat (first | refine blk_drewN ?_ _ | refine blk_drew ?_ | refine blk_alloc ?_ _)); refine blk_far ?_ NB540_544.out _; (with_reducible repeat (first | refine blk_drewN ?_ _ | refine blk_drew ?_ | refine blk_alloc ?_ _)); refine blk_far ?_ NB540_544.out _; (with_reducible repeat (first | refine blk_drewN ?_ _ | refine blk_drew ?_ | refine blk_alloc ?_ _)); refine blk_far ?_ NB540_544.out _; (with_reducible repeat (first | refine blk_drewN ?_ _ | refine blk_drew ?_ | refine blk_alloc ?_ _)); refine blk_far ?_ NB540_544.out _; (with_reducible repeat (first | refine blk_drewN ?_ _ | refine blk_drew ?_ | refine blk_alloc ?_ _)); refine blk_far ?_ NB540_544.out _; (with_reducible repeat (first | refine blk_drewN ?_ _ | refine blk_drew ?_ | refine blk_alloc ?_ _)); refine blk_far ?_ NB540_544.out _; (with_reducible repeat (first | refine blk_drewN ?_ _ | refine blk_drew ?_ | refine blk_alloc ?_ _)); exact BK540.out)) : gb545 ≠ gb540)); have n11_ := Aside0.mk ((by rw [hg]; exact Nat.ne_of_lt (blk_lt (g := gb544) (o := .cells #[.int .i64 a0_0, .int .i64 a0_1, .int .i64 a0_2, .string a0_3, .string (⟨#[]⟩ : ByteArray)] 23 (0, 0)) (by (with_reducible repeat (first | refine blk_drewN ?_ _ | refine blk_drew ?_ | refine blk_alloc ?_ _)); refine blk_put (cs := #[.int .i64 a0_0, .int .i64 a0_1, .int .i64 a0_2, .string a0_3, .string a0_4]) ?_ 4 _ rfl; (with_reducible repeat (first | refine blk_drewN ?_ _ | refine blk_drew ?_ | refine blk_alloc ?_ _)); refine blk_put (cs := #[.int .i64 a0_0, .int .i64 a0_1, .int .i64 a0_2, .string a0_3, .string (⟨#[]⟩ : ByteArray)]) ?_ 4 _ rfl; (with_reducible repeat (first | refine blk_drewN ?_ _ | refine blk_drew ?_ | refine blk_alloc ?_ _)); refine blk_put (cs := #[.int .i64 a0_0, .int .i64 a0_1, .int .i64 a0_2, .string (⟨#[]⟩ : ByteArray), .string (⟨#[]⟩ : ByteArray)]) ?_ 3 _ rfl; (with_reducible repeat (first | refine blk_drewN ?_ _ | refine blk_drew ?_ | refine blk_alloc ?_ _)); refine blk_put (cs := #[.int .i64 a0_0, .int .i64 a0_1, .int .i64 0, .string (⟨#[]⟩ : ByteArray), .string (⟨#[]⟩ : ByteArray)]) ?_ 2 _ rfl; (with_reducible repeat (first | refine blk_drewN ?_ _ | refine blk_drew ?_ | refine blk_alloc ?_ _)); refine blk_put (cs := #[.int .i64 a0_0, .int .i64 0, .int .i64 0, .string (⟨#[]⟩ : ByteArray), .string (⟨#[]⟩ : ByteArray)]) ?_ 1 _ rfl; (with_reducible repeat (first | refine blk_drewN ?_ _ | refine blk_drew ?_ | refine blk_alloc ?_ _)); refine blk_put (cs := #[.int .i64 0, .int .i64 0, .int .i64 0, .string (⟨#[]⟩ : ByteArray), .string (⟨#[]⟩ : ByteArray)]) ?_ 0 _ rfl; (with_reducible repeat (first | refine blk_drewN ?_ _ | refine blk_drew ?_ | refine blk_alloc ?_ _)); exact BK544.out)) : gb544 ≠ gb545)); have n12_ := Aside0.mk ((by rw [hg]; exact Nat.ne_of_gt (blk_lt (g := gb544) (o := .cells #[.int .i64 a0_0, .int .i64 a0_1, .int .i64 a0_2, .string a0_3, .string (⟨#[]⟩ : ByteArray)] 23 (0, 0)) (by (with_reducible repeat (first | refine blk_drewN ?_ _ | refine blk_drew ?_ | refine blk_alloc ?_ _)); refine blk_put (cs := #[.int .i64 a0_0, .int .i64 a0_1, .int .i64 a0_2, .string a0_3, .string a0_4]) ?_ 4 _ rfl; (with_reducible repeat (first | refine blk_drewN ?_ _ | refine blk_drew ?_ | refine blk_alloc ?_ _)); refine blk_put (cs := #[.int .i64 a0_0, .int .i64 a0_1, .int .i64 a0_2, .string a0_3, .string (⟨#[]⟩ : ByteArray)]) ?_ 4 _ rfl; (with_reducible repeat (first | refine blk_drewN ?_ _ | refine blk_drew ?_ | refine blk_alloc ?_ _)); refine blk_put (cs := #[.int .i64 a0_0, .int .i64 a0_1, .int .i64 a0_2, .string (⟨#[]⟩ : ByteArray), .string (⟨#[]⟩ : ByteArray)]) ?_ 3 _ rfl; (with_reducible repeat (first | refine blk_drewN ?_ _ | refine blk_drew ?_ | refine blk_alloc ?_ _)); refine blk_put (cs := #[.int .i64 a0_0, .int .i64 a0_1, .int .i64 0, .string (⟨#[]⟩ : ByteArray), .string (⟨#[]⟩ : ByteArray)]) ?_ 2 _ rfl; (with_reducible repeat (first | refine blk_drewN ?_ _ | refine blk_drew ?_ | refine blk_alloc ?_ _)); refine blk_put (cs := #[.int .i64 a0_0, .int .i64 0, .int .i64 0, .string (⟨#[]⟩ : ByteArray), .string (⟨#[]⟩ : ByteArray)]) ?_ 1 _ rfl; (with_reducible repeat (first | refine blk_drewN ?_ _ | refine blk_drew ?_ | refine blk_alloc ?_ _)); refine blk_put (cs := #[.int .i64 0, .int .i64 0, .int .i64 0, .string (⟨#[]⟩ : ByteArray), .string (⟨#[]⟩ : ByteArray)]) ?_ 0 _ rfl; (with_reducible repeat (first | refine blk_drewN ?_ _ | refine blk_drew ?_ | refine blk_alloc ?_ _)); exact BK544.out)) : gb545 ≠ gb544)); clear BK539; clear BK540; clear BK544; clear HB; have BK539 := n0_; have BK540 := n1_; have BK544 := n2_; have HB := n3_; have BK545 := n4_; have GW545 := n5_; have GE545 := n6_; have NB539_545 := n7_; have NB545_539 := n8_; have NB540_545 := n9_; have NB545_540 := n10_; have NB544_545 := n11_; have NB545_544 := n12_; clear n0_ n1_ n2_ n3_ n4_ n5_ n6_ n7_ n8_ n9_ n10_ n11_ n12_; clear hb hbox hg; have hnb38 := NB545_539.out; have hnc38 := NB539_545.out; have hnb39 := NB545_540.out; have hnc39 := NB540_545.out; have hnb40 := NB545_544.out; have hnc40 := NB544_545.out; have hcz41_0 : w37.cell? ⟨gb545, 0, none⟩ = some (.int .i64 0) := (blk_cell BK545.out 0).trans rfl; have hcz41_1 : w37.cell? ⟨gb545, 1, none⟩ = some (.int .i64 0) := (blk_cell BK545.out 1).trans rfl; have hcz41_2 : w37.cell? ⟨gb545, 2, none⟩ = some (.int .i64 0) := (blk_cell BK545.out 2).trans rfl; have hcz41_3 : w37.cell? ⟨gb545, 3, none⟩ = some (.string (⟨#[]⟩ : ByteArray)) := (blk_cell BK545.out 3).trans rfl; have hcz41_4 : w37.cell? ⟨gb545, 4, none⟩ = some (.string (⟨#[]⟩ : ByteArray)) := (blk_cell BK545.out 4).trans rfl; have hfz41_0 := blk_frozen BK545.out 0; have hfz41_1 := blk_frozen BK545.out 1; have hfz41_2 := blk_frozen BK545.out 2; have hfz41_3 := blk_frozen BK545.out 3; have hfz41_4 := blk_frozen BK545.out 4; have hcz42_0 : w37.cell? ⟨gb539, 0, none⟩ = some (.int .i64 a0_0) := (blk_cell BK539.out 0).trans rfl; have hcz42_1 : w37.cell? ⟨gb539, 1, none⟩ = some (.int .i64 a0_1) := (blk_cell BK539.out 1).trans rfl; have hcz42_2 : w37.cell? ⟨gb539, 2, none⟩ = some (.int .i64 a0_2) := (blk_cell BK539.out 2).trans rfl; have hcz42_3 : w37.cell? ⟨gb539, 3, none⟩ = some (.string a0_3) := (blk_cell BK539.out 3).trans rfl; have hcz42_4 : w37.cell? ⟨gb539, 4, none⟩ = some (.string a0_4) := (blk_cell BK539.out 4).trans rfl; have hfz42_0 := blk_frozen BK539.out 0; have hfz42_1 := blk_frozen BK539.out 1; have hfz42_2 := blk_frozen BK539.out 2; have hfz42_3 := blk_frozen BK539.out 3; have hfz42_4 := blk_frozen BK539.out 4) | ((with_reducible refine gate_callee (f := 17) rfl ?_); refine goesL_ (some 48) rfl rfl Tryd.func17 (by kernel_rfl) rfl #[.agg #[.int .i64 a0_0, .int .i64 a0_1, .int .i64 a0_2, .string a0_3, .string a0_4], .int .i64 a2] rfl (by (try simp only [List.map_toArray, List.map_cons, List.map_nil]); first | done | rfl | (simp only [List.length_drop, List.length_take]; rfl)) ?_; (with_reducible refine (ver_Bump.calls a0_0 a0_1 a0_2 a0_3 a0_4 a2 t546 t547 t548 t549 t550 t551 _ A27.out).mono ?_); rintro e w43 ⟨rfl, hb⟩; refine ⟨_, rfl, ?_⟩; have n0_ := Aside0.mk (blk_below (g := gb539) (o := .cells #[.int .i64 a0_0, .int .i64 a0_1, .int .i64 a0_2, .string a0_3, .string a0_4] 23 (0, 0)) (by (with_reducible repeat (first | refine blk_drewN ?_ _ | refine blk_drew ?_ | refine blk_alloc ?_ _)); refine blk_far ?_ NB539_545.out _; (with_reducible repeat (first | refine blk_drewN ?_ _ | refine blk_drew ?_ | refine blk_alloc ?_ _)); refine blk_far ?_ NB539_545.out _; (with_reducible repeat (first | refine blk_drewN ?_ _ | refine blk_drew ?_ | refine blk_alloc ?_ _)); refine blk_far ?_ NB539_545.out _; (with_reducible repeat (first | refine blk_drewN ?_ _ | refine blk_drew ?_ | refine blk_alloc ?_ _)); refine blk_far ?_ NB539_545.out _; (with_reducible repeat (first | refine blk_drewN ?_ _ | refine blk_drew ?_ | refine blk_alloc ?_ _)); refine blk_far ?_ NB539_545.out _; (with_reducible repeat (first | refine blk_drewN ?_ _ | refine blk_drew ?_ | refine blk_alloc ?_ _)); refine blk_far ?_ NB539_545.out _; (with_reducible repeat (first | refine blk_drewN ?_ _ | refine blk_drew ?_ | refine blk_alloc ?_ _)); exact BK539.out) hb); have n1_ := Aside0.mk (blk_below (g := gb540) (o := .cells #[.int .i64 a1_0, .int .i64 a1_1, .int .i64 a1_2, .string a1_3, .string a1_4] 23 (0, 0)) (by (with_reducible repeat (first | refine blk_drewN ?_ _ | refine blk_drew ?_ | refine blk_alloc ?_ _)); refine blk_far ?_ NB540_545.out _; (with_reducible repeat (first | refine blk_drewN ?_ _ | refine blk_drew ?_ | refine blk_alloc ?_ _)); refine blk_far ?_ NB540_545.out _; (with_reducible repeat (first | refine blk_drewN ?_ _ | refine blk_drew ?_ | refine blk_alloc ?_ _)); refine blk_far ?_ NB540_545.out _; (with_reducible repeat (first | refine blk_drewN ?_ _ | refine blk_drew ?_ | refine blk_alloc ?_ _)); refine blk_far ?_ NB540_545.out _; (with_reducible repeat (first | refine blk_drewN ?_ _ | refine blk_drew ?_ | refine blk_alloc ?_ _)); refine blk_far ?_ NB540_545.out _; (with_reducible repeat (first | refine blk_drewN ?_ _ | refine blk_drew ?_ | refine blk_alloc ?_ _)); refine blk_far ?_ NB540_545.out _; (with_reducible repeat (first | refine blk_drewN ?_ _ | refine blk_drew ?_ | refine blk_alloc ?_ _)); exact BK540.out) hb); have n2_ := Aside0.mk (blk_below (g := gb544) (o := .cells #[.int .i64 a0_0, .int .i64 a0_1, .int .i64 a0_2, .string a0_3, .string (⟨#[]⟩ : ByteArray)] 23 (0, 0)) (by (with_reducible repeat (first | refine blk_drewN ?_ _ | refine blk_drew ?_ | refine blk_alloc ?_ _)); refine blk_far ?_ NB544_545.out _; (with_reducible repeat (first | refine blk_drewN ?_ _ | refine blk_drew ?_ | refine blk_alloc ?_ _)); refine blk_far ?_ NB544_545.out _; (with_reducible repeat (first | refine blk_drewN ?_ _ | refine blk_drew ?_ | refine blk_alloc ?_ _)); refine blk_far ?_ NB544_545.out _; (with_reducible repeat (first | refine blk_drewN ?_ _ | refine blk_drew ?_ | refine blk_alloc ?_ _)); refine blk_far ?_ NB544_545.out _; (with_reducible repeat (first | refine blk_drewN ?_ _ | refine blk_drew ?_ | refine blk_alloc ?_ _)); refine blk_far ?_ NB544_545.out _; (with_reducible repeat (first | refine blk_drewN ?_ _ | refine blk_drew ?_ | refine blk_alloc ?_ _)); refine blk_far ?_ NB544_545.out _; (with_reducible repeat (first | refine blk_drewN ?_ _ | refine blk_drew ?_ | refine blk_alloc ?_ _)); exact BK544.out) hb); have n3_ := Aside0.mk (blk_below (g := gb545) (o := .cells #[.int .i64 a0_0, .int .i64 a0_1, .int .i64 a0_2, .string (⟨#[]⟩ : ByteArray), .string a0_4] 23 (0, 0)) (by (with_reducible repeat (first | refine blk_drewN ?_ _ | refine blk_drew ?_ | refine blk_alloc ?_ _)); refine blk_put (cs := #[.int .i64 a0_0, .int .i64 a0_1, .int .i64 a0_2, .string a0_3, .string a0_4]) ?_ 3 _ rfl; (with_reducible repeat (first | refine blk_drewN ?_ _ | refine blk_drew ?_ | refine blk_alloc ?_ _)); refine blk_put (cs := #[.int .i64 a0_0, .int .i64 a0_1, .int .i64 a0_2, .string a0_3, .string (⟨#[]⟩ : ByteArray)]) ?_ 4 _ rfl; (with_reducible repeat (first | refine blk_drewN ?_ _ | refine blk_drew ?_ | refine blk_alloc ?_ _)); refine blk_put (cs := #[.int .i64 a0_0, .int .i64 a0_1, .int .i64 a0_2, .string (⟨#[]⟩ : ByteArray), .string (⟨#[]⟩ : ByteArray)]) ?_ 3 _ rfl; (with_reducible repeat (first | refine blk_drewN ?_ _ | refine blk_drew ?_ | refine blk_alloc ?_ _)); refine blk_put (cs := #[.int .i64 a0_0, .int .i64 a0_1, .int .i64 0, .string (⟨#[]⟩ : ByteArray), .string (⟨#[]⟩ : ByteArray)]) ?_ 2 _ rfl; (with_reducible repeat (first | refine blk_drewN ?_ _ | refine blk_drew ?_ | refine blk_alloc ?_ _)); refine blk_put (cs := #[.int .i64 a0_0, .int .i64 0, .int .i64 0, .string (⟨#[]⟩ : ByteArray), .string (⟨#[]⟩ : ByteArray)]) ?_ 1 _ rfl; (with_reducible repeat (first | refine blk_drewN ?_ _ | refine blk_drew ?_ | refine blk_alloc ?_ _)); refine blk_put (cs := #[.int .i64 0, .int .i64 0, .int .i64 0, .string (⟨#[]⟩ : ByteArray), .string (⟨#[]⟩ : ByteArray)]) ?_ 0 _ rfl; (with_reducible repeat (first | refine blk_drewN ?_ _ | refine blk_drew ?_ | refine blk_alloc ?_ _)); exact BK545.out) hb); have n4_ := Aside0.mk (below_step (by repeat (first | (with_reducible first | exact HB.out | apply below_alloc | apply pw_below_drewN | apply below_drew1 | refine below_set ?_ GE539.out | refine below_set ?_ GE540.out | refine below_set ?_ GE544.out | refine below_set ?_ GE545.out) | exact HB.out)) hb); clear BK539; clear BK540; clear BK544; clear BK545; clear HB; have BK539 := n0_; have BK540 := n1_; have BK544 := n2_; have BK545 := n3_; have HB := n4_; clear n0_ n1_ n2_ n3_ n4_; (try clear hb); (try clear hb2); (try clear hk); (try clear hi)) | ((with_reducible refine gate_dst (N := 9) rfl ?_); refine box_event ?hg (N := 9) ?hd (cs := #[.int .i64 0, .int .i64 0, .int .i64 0, .string (⟨#[]⟩ : ByteArray), .string (⟨#[]⟩ : ByteArray)]) (t := 23) ?hr ?_; (case hd => rfl); (case hg => rfl); (case hr => first | (go_simp; done) | (go_simp; rfl)); intro gb552 hg w44 hbox hb; have n0_ := Aside0.mk (blk_below (g := gb539) (o := .cells #[.int .i64 a0_0, .int .i64 a0_1, .int .i64 a0_2, .string a0_3, .string a0_4] 23 (0, 0)) (by (with_reducible repeat (first | refine blk_drewN ?_ _ | refine blk_drew ?_ | refine blk_alloc ?_ _)); exact BK539.out) hb); have n1_ := Aside0.mk (blk_below (g := gb540) (o := .cells #[.int .i64 a1_0, .int .i64 a1_1, .int .i64 a1_2, .string a1_3, .string a1_4] 23 (0, 0)) (by (with_reducible repeat (first | refine blk_drewN ?_ _ | refine blk_drew ?_ | refine blk_alloc ?_ _)); exact BK540.out) hb); have n2_ := Aside0.mk (blk_below (g := gb544) (o := .cells #[.int .i64 a0_0, .int .i64 a0_1, .int .i64 a0_2, .string a0_3, .string (⟨#[]⟩ : ByteArray)] 23 (0, 0)) (by (with_reducible repeat (first | refine blk_drewN ?_ _ | refine blk_drew ?_ | refine blk_alloc ?_ _)); exact BK544.out) hb); have n3_ := Aside0.mk (blk_below (g := gb545) (o := .cells #[.int .i64 a0_0, .int .i64 a0_1, .int .i64 a0_2, .string (⟨#[]⟩ : ByteArray), .string a0_4] 23 (0, 0)) (by (with_reducible repeat (first | refine blk_drewN ?_ _ | refine blk_drew ?_ | refine blk_alloc ?_ _)); exact BK545.out) hb); have n4_ := Aside0.mk (below_step (by repeat (first | (with_reducible first | exact HB.out | apply below_alloc | apply pw_below_drewN | apply below_drew1 | refine below_set ?_ GE539.out | refine below_set ?_ GE540.out | refine below_set ?_ GE544.out | refine below_set ?_ GE545.out) | exact HB.out)) hb); have n5_ := Aside0.mk (hbox); have n6_ := Aside0.mk ((by rw [hg]; exact (below_size (by repeat (first | (with_reducible first | exact HB.out | apply below_alloc | apply pw_below_drewN | apply below_drew1 | refine below_set ?_ GE539.out | refine below_set ?_ GE540.out | refine below_set ?_ GE544.out | refine below_set ?_ GE545.out) | exact HB.out))) : w.heap.size ≤ gb552)); have n7_ := Aside0.mk ((by rw [hg]; exact (below_size (by repeat (first | (with_reducible first | exact HB.out | apply below_alloc | apply pw_below_drewN | apply below_drew1 | refine below_set ?_ GE539.out | refine below_set ?_ GE540.out | refine below_set ?_ GE544.out | refine below_set ?_ GE545.out) | exact HB.out))) : w.heap.size ≤ gb552)); have n8_ := Aside0.mk ((by rw [hg]; exact Nat.ne_of_lt (blk_lt (g := gb539) (o := .cells #[.int .i64 a0_0, .int .i64 a0_1, .int .i64 a0_2, .string a0_3, .string a0_4] 23 (0, 0)) (by (with_reducible repeat (first | refine blk_drewN ?_ _ | refine blk_drew ?_ | refine blk_alloc ?_ _)); exact BK539.out)) : gb539 ≠ gb552)); have n9_ := Aside0.mk ((by rw [hg]; exact Nat.ne_of_gt (blk_lt (g := gb539) (o := .cells #[.int .i64 a0_0, .int .i64 a0_1, .int .i64 a0_2, .string a0_3, .string a0_4] 23 (0, 0)) (by (with_reducible repeat (first | refine blk_drewN ?_ _ | refine blk_drew ?_ | refine blk_alloc ?_ _)); exact BK539.out)) : gb552 ≠ gb539)); have n10_ := Aside0.mk ((by rw [hg]; exact Nat.ne_of_lt (blk_lt (g := gb540) (o := .cells #[.int .i64 a1_0, .int .i64 a1_1, .int .i64 a1_2, .string a1_3, .string a1_4] 23 (0, 0)) (by (with_reducible repeat (first | refine blk_drewN ?_ _ | refine blk_drew ?_ | refine blk_alloc ?_ _)); exact BK540.out)) : gb540 ≠ gb552)); have n11_ := Aside0.mk ((by rw [hg]; exact Nat.ne_of_gt (blk_lt (g := gb540) (o := .cells #[.int .i64 a1_0, .int .i64 a1_1, .int .i64 a1_2, .string a1_3, .string a1_4] 23 (0, 0)) (by (with_reducible repeat (first | refine blk_drewN ?_ _ | refine blk_drew ?_ | refine blk_alloc ?_ _)); exact BK540.out)) : gb552 ≠ gb540)); have n12_ := Aside0.mk ((by rw [hg]; exact Nat.ne_of_lt (blk_lt (g := gb544) (o := .cells #[.int .i64 a0_0, .int .i64 a0_1, .int .i64 a0_2, .string a0_3, .string (⟨#[]⟩ : ByteArray)] 23 (0, 0)) (by (with_reducible repeat (first | refine blk_drewN ?_ _ | refine blk_drew ?_ | refine blk_alloc ?_ _)); exact BK544.out)) : gb544 ≠ gb552)); have n13_ := Aside0.mk ((by rw [hg]; exact Nat.ne_of_gt (blk_lt (g := gb544) (o := .cells #[.int .i64 a0_0, .int .i64 a0_1, .int .i64 a0_2, .string a0_3, .string (⟨#[]⟩ : ByteArray)] 23 (0, 0)) (by (with_reducible repeat (first | refine blk_drewN ?_ _ | refine blk_drew ?_ | refine blk_alloc ?_ _)); exact BK544.out)) : gb552 ≠ gb544)); have n14_ := Aside0.mk ((by rw [hg]; exact Nat.ne_of_lt (blk_lt (g := gb545) (o := .cells #[.int .i64 a0_0, .int .i64 a0_1, .int .i64 a0_2, .string (⟨#[]⟩ : ByteArray), .string a0_4] 23 (0, 0)) (by (with_reducible repeat (first | refine blk_drewN ?_ _ | refine blk_drew ?_ | refine blk_alloc ?_ _)); exact BK545.out)) : gb545 ≠ gb552)); have n15_ := Aside0.mk ((by rw [hg]; exact Nat.ne_of_gt (blk_lt (g := gb545) (o := .cells #[.int .i64 a0_0, .int .i64 a0_1, .int .i64 a0_2, .string (⟨#[]⟩ : ByteArray), .string a0_4] 23 (0, 0)) (by (with_reducible repeat (first | refine blk_drewN ?_ _ | refine blk_drew ?_ | refine blk_alloc ?_ _)); exact BK545.out)) : gb552 ≠ gb545)); clear BK539; clear BK540; clear BK544; clear BK545; clear HB; have BK539 := n0_; have BK540 := n1_; have BK544 := n2_; have BK545 := n3_; have HB := n4_; have BK552 := n5_; have GW552 := n6_; have GE552 := n7_; have NB539_552 := n8_; have NB552_539 := n9_; have NB540_552 := n10_; have NB552_540 := n11_; have NB544_552 := n12_; have NB552_544 := n13_; have NB545_552 := n14_; have NB552_545 := n15_; clear n0_ n1_ n2_ n3_ n4_ n5_ n6_ n7_ n8_ n9_ n10_ n11_ n12_ n13_ n14_ n15_; clear hb hbox hg; have hnb45 := NB552_539.out; have hnc45 := NB539_552.out; have hnb46 := NB552_540.out; have hnc46 := NB540_552.out; have hnb47 := NB552_544.out; have hnc47 := NB544_552.out; have hnb48 := NB552_545.out; have hnc48 := NB545_552.out; have hcz49_0 : w44.cell? ⟨gb552, 0, none⟩ = some (.int .i64 0) := (blk_cell BK552.out 0).trans rfl; have hcz49_1 : w44.cell? ⟨gb552, 1, none⟩ = some (.int .i64 0) := (blk_cell BK552.out 1).trans rfl; have hcz49_2 : w44.cell? ⟨gb552, 2, none⟩ = some (.int .i64 0) := (blk_cell BK552.out 2).trans rfl; have hcz49_3 : w44.cell? ⟨gb552, 3, none⟩ = some (.string (⟨#[]⟩ : ByteArray)) := (blk_cell BK552.out 3).trans rfl; have hcz49_4 : w44.cell? ⟨gb552, 4, none⟩ = some (.string (⟨#[]⟩ : ByteArray)) := (blk_cell BK552.out 4).trans rfl; have hfz49_0 := blk_frozen BK552.out 0; have hfz49_1 := blk_frozen BK552.out 1; have hfz49_2 := blk_frozen BK552.out 2; have hfz49_3 := blk_frozen BK552.out 3; have hfz49_4 := blk_frozen BK552.out 4; have hcz50_0 : w44.cell? ⟨gb544, 0, none⟩ = some (.int .i64 a0_0) := (blk_cell BK544.out 0).trans rfl; have hcz50_1 : w44.cell? ⟨gb544, 1, none⟩ = some (.int .i64 a0_1) := (blk_cell BK544.out 1).trans rfl; have hcz50_2 : w44.cell? ⟨gb544, 2, none⟩ = some (.int .i64 a0_2) := (blk_cell BK544.out 2).trans rfl; have hcz50_3 : w44.cell? ⟨gb544, 3, none⟩ = some (.string a0_3) := (blk_cell BK544.out 3).trans rfl; have hcz50_4 : w44.cell? ⟨gb544, 4, none⟩ = some (.string (⟨#[]⟩ : ByteArray)) := (blk_cell BK544.out 4).trans rfl; have hfz50_0 := blk_frozen BK544.out 0; have hfz50_1 := blk_frozen BK544.out 1; have hfz50_2 := blk_frozen BK544.out 2; have hfz50_3 := blk_frozen BK544.out 3; have hfz50_4 := blk_frozen BK544.out 4) | ((with_reducible refine gate_callee (f := 17) rfl ?_); refine goesL_ (some 54) rfl rfl Tryd.func17 (by kernel_rfl) rfl #[.agg #[.int .i64 a0_0, .int .i64 a0_1, .int .i64 a0_2, .string a0_3, .string (⟨#[]⟩ : ByteArray)], .int .i64 a2] rfl (by (try simp only [List.map_toArray, List.map_cons, List.map_nil]); first | done | rfl | (simp only [List.length_drop, List.length_take]; rfl)) ?_; (with_reducible refine (ver_Bump.calls a0_0 a0_1 a0_2 a0_3 (⟨#[]⟩ : ByteArray) a2 t553 t554 t555 t556 t557 t558 _ A28.out).mono ?_); rintro e w51 ⟨rfl, hb⟩; refine ⟨_, rfl, ?_⟩; have n0_ := Aside0.mk (blk_below (g := gb539) (o := .cells #[.int .i64 a0_0, .int .i64 a0_1, .int .i64 a0_2, .string a0_3, .string a0_4] 23 (0, 0)) (by (with_reducible repeat (first | refine blk_drewN ?_ _ | refine blk_drew ?_ | refine blk_alloc ?_ _)); refine blk_far ?_ NB539_552.out _; (with_reducible repeat (first | refine blk_drewN ?_ _ | refine blk_drew ?_ | refine blk_alloc ?_ _)); refine blk_far ?_ NB539_552.out _; (with_reducible repeat (first | refine blk_drewN ?_ _ | refine blk_drew ?_ | refine blk_alloc ?_ _)); refine blk_far ?_ NB539_552.out _; (with_reducible repeat (first | refine blk_drewN ?_ _ | refine blk_drew ?_ | refine blk_alloc ?_ _)); refine blk_far ?_ NB539_552.out _; (with_reducible repeat (first | refine blk_drewN ?_ _ | refine blk_drew ?_ | refine blk_alloc ?_ _)); refine blk_far ?_ NB539_552.out _; (with_reducible repeat (first | refine blk_drewN ?_ _ | refine blk_drew ?_ | refine blk_alloc ?_ _)); exact BK539.out) hb); have n1_ := Aside0.mk (blk_below (g := gb540) (o := .cells #[.int .i64 a1_0, .int .i64 a1_1, .int .i64 a1_2, .string a1_3, .string a1_4] 23 (0, 0)) (by (with_reducible repeat (first | refine blk_drewN ?_ _ | refine blk_drew ?_ | refine blk_alloc ?_ _)); refine blk_far ?_ NB540_552.out _; (with_reducible repeat (first | refine blk_drewN ?_ _ | refine blk_drew ?_ | refine blk_alloc ?_ _)); refine blk_far ?_ NB540_552.out _; (with_reducible repeat (first | refine blk_drewN ?_ _ | refine blk_drew ?_ | refine blk_alloc ?_ _)); refine blk_far ?_ NB540_552.out _; (with_reducible repeat (first | refine blk_drewN ?_ _ | refine blk_drew ?_ | refine blk_alloc ?_ _)); refine blk_far ?_ NB540_552.out _; (with_reducible repeat (first | refine blk_drewN ?_ _ | refine blk_drew ?_ | refine blk_alloc ?_ _)); refine blk_far ?_ NB540_552.out _; (with_reducible repeat (first | refine blk_drewN ?_ _ | refine blk_drew ?_ | refine blk_alloc ?_ _)); exact BK540.out) hb); have n2_ := Aside0.mk (blk_below (g := gb544) (o := .cells #[.int .i64 a0_0, .int .i64 a0_1, .int .i64 a0_2, .string a0_3, .string (⟨#[]⟩ : ByteArray)] 23 (0, 0)) (by (with_reducible repeat (first | refine blk_drewN ?_ _ | refine blk_drew ?_ | refine blk_alloc ?_ _)); refine blk_far ?_ NB544_552.out _; (with_reducible repeat (first | refine blk_drewN ?_ _ | refine blk_drew ?_ | refine blk_alloc ?_ _)); refine blk_far ?_ NB544_552.out _; (with_reducible repeat (first | refine blk_drewN ?_ _ | refine blk_drew ?_ | refine blk_alloc ?_ _)); refine blk_far ?_ NB544_552.out _; (with_reducible repeat (first | refine blk_drewN ?_ _ | refine blk_drew ?_ | refine blk_alloc ?_ _)); refine blk_far ?_ NB544_552.out _; (with_reducible repeat (first | refine blk_drewN ?_ _ | refine blk_drew ?_ | refine blk_alloc ?_ _)); refine blk_far ?_ NB544_552.out _; (with_reducible repeat (first | refine blk_drewN ?_ _ | refine blk_drew ?_ | refine blk_alloc ?_ _)); exact BK544.out) hb); have n3_ := Aside0.mk (blk_below (g := gb545) (o := .cells #[.int .i64 a0_0, .int .i64 a0_1, .int .i64 a0_2, .string (⟨#[]⟩ : ByteArray), .string a0_4] 23 (0, 0)) (by (with_reducible repeat (first | refine blk_drewN ?_ _ | refine blk_drew ?_ | refine blk_alloc ?_ _)); refine blk_far ?_ NB545_552.out _; (with_reducible repeat (first | refine blk_drewN ?_ _ | refine blk_drew ?_ | refine blk_alloc ?_ _)); refine blk_far ?_ NB545_552.out _; (with_reducible repeat (first | refine blk_drewN ?_ _ | refine blk_drew ?_ | refine blk_alloc ?_ _)); refine blk_far ?_ NB545_552.out _; (with_reducible repeat (first | refine blk_drewN ?_ _ | refine blk_drew ?_ | refine blk_alloc ?_ _)); refine blk_far ?_ NB545_552.out _; (with_reducible repeat (first | refine blk_drewN ?_ _ | refine blk_drew ?_ | refine blk_alloc ?_ _)); refine blk_far ?_ NB545_552.out _; (with_reducible repeat (first | refine blk_drewN ?_ _ | refine blk_drew ?_ | refine blk_alloc ?_ _)); exact BK545.out) hb); have n4_ := Aside0.mk (blk_below (g := gb552) (o := .cells #[.int .i64 t546, .int .i64 t547, .int .i64 t548, .string t549, .string t550] 23 (0, 0)) (by (with_reducible repeat (first | refine blk_drewN ?_ _ | refine blk_drew ?_ | refine blk_alloc ?_ _)); refine blk_put (cs := #[.int .i64 t546, .int .i64 t547, .int .i64 t548, .string t549, .string (⟨#[]⟩ : ByteArray)]) ?_ 4 _ rfl; (with_reducible repeat (first | refine blk_drewN ?_ _ | refine blk_drew ?_ | refine blk_alloc ?_ _)); refine blk_put (cs := #[.int .i64 t546, .int .i64 t547, .int .i64 t548, .string (⟨#[]⟩ : ByteArray), .string (⟨#[]⟩ : ByteArray)]) ?_ 3 _ rfl; (with_reducible repeat (first | refine blk_drewN ?_ _ | refine blk_drew ?_ | refine blk_alloc ?_ _)); refine blk_put (cs := #[.int .i64 t546, .int .i64 t547, .int .i64 0, .string (⟨#[]⟩ : ByteArray), .string (⟨#[]⟩ : ByteArray)]) ?_ 2 _ rfl; (with_reducible repeat (first | refine blk_drewN ?_ _ | refine blk_drew ?_ | refine blk_alloc ?_ _)); refine blk_put (cs := #[.int .i64 t546, .int .i64 0, .int .i64 0, .string (⟨#[]⟩ : ByteArray), .string (⟨#[]⟩ : ByteArray)]) ?_ 1 _ rfl; (with_reducible repeat (first | refine blk_drewN ?_ _ | refine blk_drew ?_ | refine blk_alloc ?_ _)); refine blk_put (cs := #[.int .i64 0, .int .i64 0, .int .i64 0, .string (⟨#[]⟩ : ByteArray), .string (⟨#[]⟩ : ByteArray)]) ?_ 0 _ rfl; (with_reducible repeat (first | refine blk_drewN ?_ _ | refine blk_drew ?_ | refine blk_alloc ?_ _)); exact BK552.out) hb); have n5_ := Aside0.mk (below_step (by repeat (first | (with_reducible first | exact HB.out | apply below_alloc | apply pw_below_drewN | apply below_drew1 | refine below_set ?_ GE539.out | refine below_set ?_ GE540.out | refine below_set ?_ GE544.out | refine below_set ?_ GE545.out | refine below_set ?_ GE552.out) | exact HB.out)) hb); clear BK539; clear BK540; clear BK544; clear BK545; clear BK552; clear HB; have BK539 := n0_; have BK540 := n1_; have BK544 := n2_; have BK545 := n3_; have BK552 := n4_; have HB := n5_; clear n0_ n1_ n2_ n3_ n4_ n5_; (try clear hb); (try clear hb2); (try clear hk); (try clear hi)) | ((with_reducible refine gate_dst (N := 11) rfl ?_); refine box_event ?hg (N := 11) ?hd (cs := #[.int .i64 0, .int .i64 0, .int .i64 0, .string (⟨#[]⟩ : ByteArray), .string (⟨#[]⟩ : ByteArray)]) (t := 23) ?hr ?_; (case hd => rfl); (case hg => rfl); (case hr => first | (go_simp; done) | (go_simp; rfl)); intro gb559 hg w52 hbox hb; have n0_ := Aside0.mk (blk_below (g := gb539) (o := .cells #[.int .i64 a0_0, .int .i64 a0_1, .int .i64 a0_2, .string a0_3, .string a0_4] 23 (0, 0)) (by (with_reducible repeat (first | refine blk_drewN ?_ _ | refine blk_drew ?_ | refine blk_alloc ?_ _)); exact BK539.out) hb); have n1_ := Aside0.mk (blk_below (g := gb540) (o := .cells #[.int .i64 a1_0, .int .i64 a1_1, .int .i64 a1_2, .string a1_3, .string a1_4] 23 (0, 0)) (by (with_reducible repeat (first | refine blk_drewN ?_ _ | refine blk_drew ?_ | refine blk_alloc ?_ _)); exact BK540.out) hb); have n2_ := Aside0.mk (blk_below (g := gb544) (o := .cells #[.int .i64 a0_0, .int .i64 a0_1, .int .i64 a0_2, .string a0_3, .string (⟨#[]⟩ : ByteArray)] 23 (0, 0)) (by (with_reducible repeat (first | refine blk_drewN ?_ _ | refine blk_drew ?_ | refine blk_alloc ?_ _)); exact BK544.out) hb); have n3_ := Aside0.mk (blk_below (g := gb545) (o := .cells #[.int .i64 a0_0, .int .i64 a0_1, .int .i64 a0_2, .string (⟨#[]⟩ : ByteArray), .string a0_4] 23 (0, 0)) (by (with_reducible repeat (first | refine blk_drewN ?_ _ | refine blk_drew ?_ | refine blk_alloc ?_ _)); exact BK545.out) hb); have n4_ := Aside0.mk (blk_below (g := gb552) (o := .cells #[.int .i64 t546, .int .i64 t547, .int .i64 t548, .string t549, .string t550] 23 (0, 0)) (by (with_reducible repeat (first | refine blk_drewN ?_ _ | refine blk_drew ?_ | refine blk_alloc ?_ _)); exact BK552.out) hb); have n5_ := Aside0.mk (below_step (by repeat (first | (with_reducible first | exact HB.out | apply below_alloc | apply pw_below_drewN | apply below_drew1 | refine below_set ?_ GE539.out | refine below_set ?_ GE540.out | refine below_set ?_ GE544.out | refine below_set ?_ GE545.out | refine below_set ?_ GE552.out) | exact HB.out)) hb); have n6_ := Aside0.mk (hbox); have n7_ := Aside0.mk ((by rw [hg]; exact (below_size (by repeat (first | (with_reducible first | exact HB.out | apply below_alloc | apply pw_below_drewN | apply below_drew1 | refine below_set ?_ GE539.out | refine below_set ?_ GE540.out | refine below_set ?_ GE544.out | refine below_set ?_ GE545.out | refine below_set ?_ GE552.out) | exact HB.out))) : w.heap.size ≤ gb559)); have n8_ := Aside0.mk ((by rw [hg]; exact (below_size (by repeat (first | (with_reducible first | exact HB.out | apply below_alloc | apply pw_below_drewN | apply below_drew1 | refine below_set ?_ GE539.out | refine below_set ?_ GE540.out | refine below_set ?_ GE544.out | refine below_set ?_ GE545.out | refine below_set ?_ GE552.out) | exact HB.out))) : w.heap.size ≤ gb559)); have n9_ := Aside0.mk ((by rw [hg]; exact Nat.ne_of_lt (blk_lt (g := gb539) (o := .cells #[.int .i64 a0_0, .int .i64 a0_1, .int .i64 a0_2, .string a0_3, .string a0_4] 23 (0, 0)) (by (with_reducible repeat (first | refine blk_drewN ?_ _ | refine blk_drew ?_ | refine blk_alloc ?_ _)); exact BK539.out)) : gb539 ≠ gb559)); have n10_ := Aside0.mk ((by rw [hg]; exact Nat.ne_of_gt (blk_lt (g := gb539) (o := .cells #[.int .i64 a0_0, .int .i64 a0_1, .int .i64 a0_2, .string a0_3, .string a0_4] 23 (0, 0)) (by (with_reducible repeat (first | refine blk_drewN ?_ _ | refine blk_drew ?_ | refine blk_alloc ?_ _)); exact BK539.out)) : gb559 ≠ gb539)); have n11_ := Aside0.mk ((by rw [hg]; exact Nat.ne_of_lt (blk_lt (g := gb540) (o := .cells #[.int .i64 a1_0, .int .i64 a1_1, .int .i64 a1_2, .string a1_3, .string a1_4] 23 (0, 0)) (by (with_reducible repeat (first | refine blk_drewN ?_ _ | refine blk_drew ?_ | refine blk_alloc ?_ _)); exact BK540.out)) : gb540 ≠ gb559)); have n12_ := Aside0.mk ((by rw [hg]; exact Nat.ne_of_gt (blk_lt (g := gb540) (o := .cells #[.int .i64 a1_0, .int .i64 a1_1, .int .i64 a1_2, .string a1_3, .string a1_4] 23 (0, 0)) (by (with_reducible repeat (first | refine blk_drewN ?_ _ | refine blk_drew ?_ | refine blk_alloc ?_ _)); exact BK540.out)) : gb559 ≠ gb540)); have n13_ := Aside0.mk ((by rw [hg]; exact Nat.ne_of_lt (blk_lt (g := gb544) (o := .cells #[.int .i64 a0_0, .int .i64 a0_1, .int .i64 a0_2, .string a0_3, .string (⟨#[]⟩ : ByteArray)] 23 (0, 0)) (by (with_reducible repeat (first | refine blk_drewN ?_ _ | refine blk_drew ?_ | refine blk_alloc ?_ _)); exact BK544.out)) : gb544 ≠ gb559)); have n14_ := Aside0.mk ((by rw [hg]; exact Nat.ne_of_gt (blk_lt (g := gb544) (o := .cells #[.int .i64 a0_0, .int .i64 a0_1, .int .i64 a0_2, .string a0_3, .string (⟨#[]⟩ : ByteArray)] 23 (0, 0)) (by (with_reducible repeat (first | refine blk_drewN ?_ _ | refine blk_drew ?_ | refine blk_alloc ?_ _)); exact BK544.out)) : gb559 ≠ gb544)); have n15_ := Aside0.mk ((by rw [hg]; exact Nat.ne_of_lt (blk_lt (g := gb545) (o := .cells #[.int .i64 a0_0, .int .i64 a0_1, .int .i64 a0_2, .string (⟨#[]⟩ : ByteArray), .string a0_4] 23 (0, 0)) (by (with_reducible repeat (first | refine blk_drewN ?_ _ | refine blk_drew ?_ | refine blk_alloc ?_ _)); exact BK545.out)) : gb545 ≠ gb559)); have n16_ := Aside0.mk ((by rw [hg]; exact Nat.ne_of_gt (blk_lt (g := gb545) (o := .cells #[.int .i64 a0_0, .int .i64 a0_1, .int .i64 a0_2, .string (⟨#[]⟩ : ByteArray), .string a0_4] 23 (0, 0)) (by (with_reducible repeat (first | refine blk_drewN ?_ _ | refine blk_drew ?_ | refine blk_alloc ?_ _)); exact BK545.out)) : gb559 ≠ gb545)); have n17_ := Aside0.mk ((by rw [hg]; exact Nat.ne_of_lt (blk_lt (g := gb552) (o := .cells #[.int .i64 t546, .int .i64 t547, .int .i64 t548, .string t549, .string t550] 23 (0, 0)) (by (with_reducible repeat (first | refine blk_drewN ?_ _ | refine blk_drew ?_ | refine blk_alloc ?_ _)); exact BK552.out)) : gb552 ≠ gb559)); have n18_ := Aside0.mk ((by rw [hg]; exact Nat.ne_of_gt (blk_lt (g := gb552) (o := .cells #[.int .i64 t546, .int .i64 t547, .int .i64 t548, .string t549, .string t550] 23 (0, 0)) (by (with_reducible repeat (first | refine blk_drewN ?_ _ | refine blk_drew ?_ | refine blk_alloc ?_ _)); exact BK552.out)) : gb559 ≠ gb552)); clear BK539; clear BK540; clear BK544; clear BK545; clear BK552; clear HB; have BK539 := n0_; have BK540 := n1_; have BK544 := n2_; have BK545 := n3_; have BK552 := n4_; have HB := n5_; have BK559 := n6_; have GW559 := n7_; have GE559 := n8_; have NB539_559 := n9_; have NB559_539 := n10_; have NB540_559 := n11_; have NB559_540 := n12_; have NB544_559 := n13_; have NB559_544 := n14_; have NB545_559 := n15_; have NB559_545 := n16_; have NB552_559 := n17_; have NB559_552 := n18_; clear n0_ n1_ n2_ n3_ n4_ n5_ n6_ n7_ n8_ n9_ n10_ n11_ n12_ n13_ n14_ n15_ n16_ n17_ n18_; clear hb hbox hg; have hnb53 := NB559_539.out; have hnc53 := NB539_559.out; have hnb54 := NB559_540.out; have hnc54 := NB540_559.out; have hnb55 := NB559_544.out; have hnc55 := NB544_559.out; have hnb56 := NB559_545.out; have hnc56 := NB545_559.out; have hnb57 := NB559_552.out; have hnc57 := NB552_559.out; have hcz58_0 : w52.cell? ⟨gb559, 0, none⟩ = some (.int .i64 0) := (blk_cell BK559.out 0).trans rfl; have hcz58_1 : w52.cell? ⟨gb559, 1, none⟩ = some (.int .i64 0) := (blk_cell BK559.out 1).trans rfl; have hcz58_2 : w52.cell? ⟨gb559, 2, none⟩ = some (.int .i64 0) := (blk_cell BK559.out 2).trans rfl; have hcz58_3 : w52.cell? ⟨gb559, 3, none⟩ = some (.string (⟨#[]⟩ : ByteArray)) := (blk_cell BK559.out 3).trans rfl; have hcz58_4 : w52.cell? ⟨gb559, 4, none⟩ = some (.string (⟨#[]⟩ : ByteArray)) := (blk_cell BK559.out 4).trans rfl; have hfz58_0 := blk_frozen BK559.out 0; have hfz58_1 := blk_frozen BK559.out 1; have hfz58_2 := blk_frozen BK559.out 2; have hfz58_3 := blk_frozen BK559.out 3; have hfz58_4 := blk_frozen BK559.out 4; have hcz59_0 : w52.cell? ⟨gb539, 0, none⟩ = some (.int .i64 a0_0) := (blk_cell BK539.out 0).trans rfl; have hcz59_1 : w52.cell? ⟨gb539, 1, none⟩ = some (.int .i64 a0_1) := (blk_cell BK539.out 1).trans rfl; have hcz59_2 : w52.cell? ⟨gb539, 2, none⟩ = some (.int .i64 a0_2) := (blk_cell BK539.out 2).trans rfl; have hcz59_3 : w52.cell? ⟨gb539, 3, none⟩ = some (.string a0_3) := (blk_cell BK539.out 3).trans rfl; have hcz59_4 : w52.cell? ⟨gb539, 4, none⟩ = some (.string a0_4) := (blk_cell BK539.out 4).trans rfl; have hfz59_0 := blk_frozen BK539.out 0; have hfz59_1 := blk_frozen BK539.out 1; have hfz59_2 := blk_frozen BK539.out 2; have hfz59_3 := blk_frozen BK539.out 3; have hfz59_4 := blk_frozen BK539.out 4))
        (try simp only [Act.put, List.setIfInBounds_toArray, List.set_cons_zero, List.set_cons_succ])
        go_cut [13] (fun v13 wc => ∃ (kq : Nat) (x13_28 : Int), v13 = .int .i64 x13_28 ∧ Aside0 (armadalaw07_VerBuilds.j1 kq t551 t558 x13_28 a0_0 a0_1 a0_2 a0_3 a0_4 a1_0 a1_1 a1_2 a1_3 a1_4 a0_0 a0_1 a0_2 a0_3 (⟨#[]⟩ : ByteArray) a0_0 a0_1 a0_2 (⟨#[]⟩ : ByteArray) a0_4 t546 t547 t548 t549 t550 t553 t554 t555 t556 t557 = some true) ∧ Aside0 (kq ≤ kj3) ∧ Aside0 (wc.heap[gb539]? = some (.cells #[.int .i64 a0_0, .int .i64 a0_1, .int .i64 a0_2, .string a0_3, .string a0_4] 23 (0, 0))) ∧ Aside0 (wc.heap[gb540]? = some (.cells #[.int .i64 a1_0, .int .i64 a1_1, .int .i64 a1_2, .string a1_3, .string a1_4] 23 (0, 0))) ∧ Aside0 (wc.heap[gb544]? = some (.cells #[.int .i64 a0_0, .int .i64 a0_1, .int .i64 a0_2, .string a0_3, .string (⟨#[]⟩ : ByteArray)] 23 (0, 0))) ∧ Aside0 (wc.heap[gb545]? = some (.cells #[.int .i64 a0_0, .int .i64 a0_1, .int .i64 a0_2, .string (⟨#[]⟩ : ByteArray), .string a0_4] 23 (0, 0))) ∧ Aside0 (wc.heap[gb552]? = some (.cells #[.int .i64 t546, .int .i64 t547, .int .i64 t548, .string t549, .string t550] 23 (0, 0))) ∧ Aside0 (wc.heap[gb559]? = some (.cells #[.int .i64 t553, .int .i64 t554, .int .i64 t555, .string t556, .string t557] 23 (0, 0))) ∧ Aside0 (Below w.heap.size w wc))
        case first =>
          have H := HC29.out
          clear HC29
          by_cases c60 : a0_3.toList = ([] : List UInt8)
          · rw [if_pos c60] at H
            have c60b0 : (a0_3.toList == ([] : List UInt8)) = true := beq_iff_eq.mpr c60
            have c60be : a0_3.toList.isEmpty = true := by simpa using c60b0
            (try rw [c60be])
            (try simp only [Bool.not_true, Bool.not_false])
            have c60b1 : (a0_3.toList != ([] : List UInt8)) = false := bne_eq_false_iff_eq.mpr c60
            clear c60
            (first | rw [c60b0] | (simp only [i64_w, i32_w]; rw [c60b0]) | skip)
            have H' := Aside0.mk H
            clear H
            go_wp2
            go_meet
            case rel => exact ⟨_, (0), (by first | rfl | (simp; done) | (simp [*]; done)), H', ⟨by have := HJ3.out; first | omega | exact Nat.le_refl _⟩, ⟨by (with_reducible repeat (first | refine blk_drewN ?_ _ | refine blk_drew ?_ | refine blk_alloc ?_ _)); refine blk_far ?_ NB539_559.out _; (with_reducible repeat (first | refine blk_drewN ?_ _ | refine blk_drew ?_ | refine blk_alloc ?_ _)); refine blk_far ?_ NB539_559.out _; (with_reducible repeat (first | refine blk_drewN ?_ _ | refine blk_drew ?_ | refine blk_alloc ?_ _)); refine blk_far ?_ NB539_559.out _; (with_reducible repeat (first | refine blk_drewN ?_ _ | refine blk_drew ?_ | refine blk_alloc ?_ _)); refine blk_far ?_ NB539_559.out _; (with_reducible repeat (first | refine blk_drewN ?_ _ | refine blk_drew ?_ | refine blk_alloc ?_ _)); refine blk_far ?_ NB539_559.out _; (with_reducible repeat (first | refine blk_drewN ?_ _ | refine blk_drew ?_ | refine blk_alloc ?_ _)); exact BK539.out⟩, ⟨by (with_reducible repeat (first | refine blk_drewN ?_ _ | refine blk_drew ?_ | refine blk_alloc ?_ _)); refine blk_far ?_ NB540_559.out _; (with_reducible repeat (first | refine blk_drewN ?_ _ | refine blk_drew ?_ | refine blk_alloc ?_ _)); refine blk_far ?_ NB540_559.out _; (with_reducible repeat (first | refine blk_drewN ?_ _ | refine blk_drew ?_ | refine blk_alloc ?_ _)); refine blk_far ?_ NB540_559.out _; (with_reducible repeat (first | refine blk_drewN ?_ _ | refine blk_drew ?_ | refine blk_alloc ?_ _)); refine blk_far ?_ NB540_559.out _; (with_reducible repeat (first | refine blk_drewN ?_ _ | refine blk_drew ?_ | refine blk_alloc ?_ _)); refine blk_far ?_ NB540_559.out _; (with_reducible repeat (first | refine blk_drewN ?_ _ | refine blk_drew ?_ | refine blk_alloc ?_ _)); exact BK540.out⟩, ⟨by (with_reducible repeat (first | refine blk_drewN ?_ _ | refine blk_drew ?_ | refine blk_alloc ?_ _)); refine blk_far ?_ NB544_559.out _; (with_reducible repeat (first | refine blk_drewN ?_ _ | refine blk_drew ?_ | refine blk_alloc ?_ _)); refine blk_far ?_ NB544_559.out _; (with_reducible repeat (first | refine blk_drewN ?_ _ | refine blk_drew ?_ | refine blk_alloc ?_ _)); refine blk_far ?_ NB544_559.out _; (with_reducible repeat (first | refine blk_drewN ?_ _ | refine blk_drew ?_ | refine blk_alloc ?_ _)); refine blk_far ?_ NB544_559.out _; (with_reducible repeat (first | refine blk_drewN ?_ _ | refine blk_drew ?_ | refine blk_alloc ?_ _)); refine blk_far ?_ NB544_559.out _; (with_reducible repeat (first | refine blk_drewN ?_ _ | refine blk_drew ?_ | refine blk_alloc ?_ _)); exact BK544.out⟩, ⟨by (with_reducible repeat (first | refine blk_drewN ?_ _ | refine blk_drew ?_ | refine blk_alloc ?_ _)); refine blk_far ?_ NB545_559.out _; (with_reducible repeat (first | refine blk_drewN ?_ _ | refine blk_drew ?_ | refine blk_alloc ?_ _)); refine blk_far ?_ NB545_559.out _; (with_reducible repeat (first | refine blk_drewN ?_ _ | refine blk_drew ?_ | refine blk_alloc ?_ _)); refine blk_far ?_ NB545_559.out _; (with_reducible repeat (first | refine blk_drewN ?_ _ | refine blk_drew ?_ | refine blk_alloc ?_ _)); refine blk_far ?_ NB545_559.out _; (with_reducible repeat (first | refine blk_drewN ?_ _ | refine blk_drew ?_ | refine blk_alloc ?_ _)); refine blk_far ?_ NB545_559.out _; (with_reducible repeat (first | refine blk_drewN ?_ _ | refine blk_drew ?_ | refine blk_alloc ?_ _)); exact BK545.out⟩, ⟨by (with_reducible repeat (first | refine blk_drewN ?_ _ | refine blk_drew ?_ | refine blk_alloc ?_ _)); refine blk_far ?_ NB552_559.out _; (with_reducible repeat (first | refine blk_drewN ?_ _ | refine blk_drew ?_ | refine blk_alloc ?_ _)); refine blk_far ?_ NB552_559.out _; (with_reducible repeat (first | refine blk_drewN ?_ _ | refine blk_drew ?_ | refine blk_alloc ?_ _)); refine blk_far ?_ NB552_559.out _; (with_reducible repeat (first | refine blk_drewN ?_ _ | refine blk_drew ?_ | refine blk_alloc ?_ _)); refine blk_far ?_ NB552_559.out _; (with_reducible repeat (first | refine blk_drewN ?_ _ | refine blk_drew ?_ | refine blk_alloc ?_ _)); refine blk_far ?_ NB552_559.out _; (with_reducible repeat (first | refine blk_drewN ?_ _ | refine blk_drew ?_ | refine blk_alloc ?_ _)); exact BK552.out⟩, ⟨by (with_reducible repeat (first | refine blk_drewN ?_ _ | refine blk_drew ?_ | refine blk_alloc ?_ _)); refine blk_put (cs := #[.int .i64 t553, .int .i64 t554, .int .i64 t555, .string t556, .string (⟨#[]⟩ : ByteArray)]) ?_ 4 _ rfl; (with_reducible repeat (first | refine blk_drewN ?_ _ | refine blk_drew ?_ | refine blk_alloc ?_ _)); refine blk_put (cs := #[.int .i64 t553, .int .i64 t554, .int .i64 t555, .string (⟨#[]⟩ : ByteArray), .string (⟨#[]⟩ : ByteArray)]) ?_ 3 _ rfl; (with_reducible repeat (first | refine blk_drewN ?_ _ | refine blk_drew ?_ | refine blk_alloc ?_ _)); refine blk_put (cs := #[.int .i64 t553, .int .i64 t554, .int .i64 0, .string (⟨#[]⟩ : ByteArray), .string (⟨#[]⟩ : ByteArray)]) ?_ 2 _ rfl; (with_reducible repeat (first | refine blk_drewN ?_ _ | refine blk_drew ?_ | refine blk_alloc ?_ _)); refine blk_put (cs := #[.int .i64 t553, .int .i64 0, .int .i64 0, .string (⟨#[]⟩ : ByteArray), .string (⟨#[]⟩ : ByteArray)]) ?_ 1 _ rfl; (with_reducible repeat (first | refine blk_drewN ?_ _ | refine blk_drew ?_ | refine blk_alloc ?_ _)); refine blk_put (cs := #[.int .i64 0, .int .i64 0, .int .i64 0, .string (⟨#[]⟩ : ByteArray), .string (⟨#[]⟩ : ByteArray)]) ?_ 0 _ rfl; (with_reducible repeat (first | refine blk_drewN ?_ _ | refine blk_drew ?_ | refine blk_alloc ?_ _)); exact BK559.out⟩, ⟨by repeat (first | (with_reducible first | exact HB.out | apply below_alloc | apply pw_below_drewN | apply below_drew1 | refine below_set ?_ GE539.out | refine below_set ?_ GE540.out | refine below_set ?_ GE544.out | refine below_set ?_ GE545.out | refine below_set ?_ GE552.out | refine below_set ?_ GE559.out) | exact HB.out)⟩⟩
          · rw [if_neg c60] at H
            have c60b0 : (a0_3.toList == ([] : List UInt8)) = false := beq_eq_false_iff_ne.mpr c60
            have c60be : a0_3.toList.isEmpty = false := by simpa using c60b0
            (try rw [c60be])
            (try simp only [Bool.not_true, Bool.not_false])
            have c60b1 : (a0_3.toList != ([] : List UInt8)) = true := bne_iff_ne.mpr c60
            (first | rw [c60b0] | (simp only [i64_w, i32_w]; rw [c60b0]) | skip)
            have H' := Aside0.mk H
            clear H
            go_wp2
            go_meet
            case rel => exact ⟨_, ((-1)), (by first | rfl | (simp; done) | (simp [*]; done)), H', ⟨by have := HJ3.out; first | omega | exact Nat.le_refl _⟩, ⟨by (with_reducible repeat (first | refine blk_drewN ?_ _ | refine blk_drew ?_ | refine blk_alloc ?_ _)); refine blk_far ?_ NB539_559.out _; (with_reducible repeat (first | refine blk_drewN ?_ _ | refine blk_drew ?_ | refine blk_alloc ?_ _)); refine blk_far ?_ NB539_559.out _; (with_reducible repeat (first | refine blk_drewN ?_ _ | refine blk_drew ?_ | refine blk_alloc ?_ _)); refine blk_far ?_ NB539_559.out _; (with_reducible repeat (first | refine blk_drewN ?_ _ | refine blk_drew ?_ | refine blk_alloc ?_ _)); refine blk_far ?_ NB539_559.out _; (with_reducible repeat (first | refine blk_drewN ?_ _ | refine blk_drew ?_ | refine blk_alloc ?_ _)); refine blk_far ?_ NB539_559.out _; (with_reducible repeat (first | refine blk_drewN ?_ _ | refine blk_drew ?_ | refine blk_alloc ?_ _)); exact BK539.out⟩, ⟨by (with_reducible repeat (first | refine blk_drewN ?_ _ | refine blk_drew ?_ | refine blk_alloc ?_ _)); refine blk_far ?_ NB540_559.out _; (with_reducible repeat (first | refine blk_drewN ?_ _ | refine blk_drew ?_ | refine blk_alloc ?_ _)); refine blk_far ?_ NB540_559.out _; (with_reducible repeat (first | refine blk_drewN ?_ _ | refine blk_drew ?_ | refine blk_alloc ?_ _)); refine blk_far ?_ NB540_559.out _; (with_reducible repeat (first | refine blk_drewN ?_ _ | refine blk_drew ?_ | refine blk_alloc ?_ _)); refine blk_far ?_ NB540_559.out _; (with_reducible repeat (first | refine blk_drewN ?_ _ | refine blk_drew ?_ | refine blk_alloc ?_ _)); refine blk_far ?_ NB540_559.out _; (with_reducible repeat (first | refine blk_drewN ?_ _ | refine blk_drew ?_ | refine blk_alloc ?_ _)); exact BK540.out⟩, ⟨by (with_reducible repeat (first | refine blk_drewN ?_ _ | refine blk_drew ?_ | refine blk_alloc ?_ _)); refine blk_far ?_ NB544_559.out _; (with_reducible repeat (first | refine blk_drewN ?_ _ | refine blk_drew ?_ | refine blk_alloc ?_ _)); refine blk_far ?_ NB544_559.out _; (with_reducible repeat (first | refine blk_drewN ?_ _ | refine blk_drew ?_ | refine blk_alloc ?_ _)); refine blk_far ?_ NB544_559.out _; (with_reducible repeat (first | refine blk_drewN ?_ _ | refine blk_drew ?_ | refine blk_alloc ?_ _)); refine blk_far ?_ NB544_559.out _; (with_reducible repeat (first | refine blk_drewN ?_ _ | refine blk_drew ?_ | refine blk_alloc ?_ _)); refine blk_far ?_ NB544_559.out _; (with_reducible repeat (first | refine blk_drewN ?_ _ | refine blk_drew ?_ | refine blk_alloc ?_ _)); exact BK544.out⟩, ⟨by (with_reducible repeat (first | refine blk_drewN ?_ _ | refine blk_drew ?_ | refine blk_alloc ?_ _)); refine blk_far ?_ NB545_559.out _; (with_reducible repeat (first | refine blk_drewN ?_ _ | refine blk_drew ?_ | refine blk_alloc ?_ _)); refine blk_far ?_ NB545_559.out _; (with_reducible repeat (first | refine blk_drewN ?_ _ | refine blk_drew ?_ | refine blk_alloc ?_ _)); refine blk_far ?_ NB545_559.out _; (with_reducible repeat (first | refine blk_drewN ?_ _ | refine blk_drew ?_ | refine blk_alloc ?_ _)); refine blk_far ?_ NB545_559.out _; (with_reducible repeat (first | refine blk_drewN ?_ _ | refine blk_drew ?_ | refine blk_alloc ?_ _)); refine blk_far ?_ NB545_559.out _; (with_reducible repeat (first | refine blk_drewN ?_ _ | refine blk_drew ?_ | refine blk_alloc ?_ _)); exact BK545.out⟩, ⟨by (with_reducible repeat (first | refine blk_drewN ?_ _ | refine blk_drew ?_ | refine blk_alloc ?_ _)); refine blk_far ?_ NB552_559.out _; (with_reducible repeat (first | refine blk_drewN ?_ _ | refine blk_drew ?_ | refine blk_alloc ?_ _)); refine blk_far ?_ NB552_559.out _; (with_reducible repeat (first | refine blk_drewN ?_ _ | refine blk_drew ?_ | refine blk_alloc ?_ _)); refine blk_far ?_ NB552_559.out _; (with_reducible repeat (first | refine blk_drewN ?_ _ | refine blk_drew ?_ | refine blk_alloc ?_ _)); refine blk_far ?_ NB552_559.out _; (with_reducible repeat (first | refine blk_drewN ?_ _ | refine blk_drew ?_ | refine blk_alloc ?_ _)); refine blk_far ?_ NB552_559.out _; (with_reducible repeat (first | refine blk_drewN ?_ _ | refine blk_drew ?_ | refine blk_alloc ?_ _)); exact BK552.out⟩, ⟨by (with_reducible repeat (first | refine blk_drewN ?_ _ | refine blk_drew ?_ | refine blk_alloc ?_ _)); refine blk_put (cs := #[.int .i64 t553, .int .i64 t554, .int .i64 t555, .string t556, .string (⟨#[]⟩ : ByteArray)]) ?_ 4 _ rfl; (with_reducible repeat (first | refine blk_drewN ?_ _ | refine blk_drew ?_ | refine blk_alloc ?_ _)); refine blk_put (cs := #[.int .i64 t553, .int .i64 t554, .int .i64 t555, .string (⟨#[]⟩ : ByteArray), .string (⟨#[]⟩ : ByteArray)]) ?_ 3 _ rfl; (with_reducible repeat (first | refine blk_drewN ?_ _ | refine blk_drew ?_ | refine blk_alloc ?_ _)); refine blk_put (cs := #[.int .i64 t553, .int .i64 t554, .int .i64 0, .string (⟨#[]⟩ : ByteArray), .string (⟨#[]⟩ : ByteArray)]) ?_ 2 _ rfl; (with_reducible repeat (first | refine blk_drewN ?_ _ | refine blk_drew ?_ | refine blk_alloc ?_ _)); refine blk_put (cs := #[.int .i64 t553, .int .i64 0, .int .i64 0, .string (⟨#[]⟩ : ByteArray), .string (⟨#[]⟩ : ByteArray)]) ?_ 1 _ rfl; (with_reducible repeat (first | refine blk_drewN ?_ _ | refine blk_drew ?_ | refine blk_alloc ?_ _)); refine blk_put (cs := #[.int .i64 0, .int .i64 0, .int .i64 0, .string (⟨#[]⟩ : ByteArray), .string (⟨#[]⟩ : ByteArray)]) ?_ 0 _ rfl; (with_reducible repeat (first | refine blk_drewN ?_ _ | refine blk_drew ?_ | refine blk_alloc ?_ _)); exact BK559.out⟩, ⟨by repeat (first | (with_reducible first | exact HB.out | apply below_alloc | apply pw_below_drewN | apply below_drew1 | refine below_set ?_ GE539.out | refine below_set ?_ GE540.out | refine below_set ?_ GE544.out | refine below_set ?_ GE545.out | refine below_set ?_ GE552.out | refine below_set ?_ GE559.out) | exact HB.out)⟩⟩
        case rest =>
          clear HC29
          try clear c1
          try clear c2
          try clear p2
          try clear c3
          try clear c4
          try clear c5
          try clear c6
          try clear p6
          try clear c7
          try clear c7b0
          try clear c8
          try clear c9
          try clear c10
          try clear c12
          try clear c14
          try clear c17
          try clear c20
          try clear c24
          try clear c30
          try clear c33
          try clear c34
          try clear c38
          try clear c39
          try clear c40
          try clear c45
          try clear c46
          try clear c47
          try clear c48
          try clear c53
          try clear c54
          try clear c55
          try clear c56
          try clear c57
          try clear c60
          try clear c60b0
          try clear c60b1
          try clear hcz10_0
          try clear hcz10_1
          try clear hcz10_2
          try clear hcz10_3
          try clear hcz10_4
          try clear hcz15_0
          try clear hcz15_1
          try clear hcz15_2
          try clear hcz15_3
          try clear hcz15_4
          try clear hcz16_0
          try clear hcz16_1
          try clear hcz16_2
          try clear hcz16_3
          try clear hcz16_4
          try clear hcz18_0
          try clear hcz18_1
          try clear hcz18_2
          try clear hcz18_3
          try clear hcz18_4
          try clear hcz21_0
          try clear hcz21_1
          try clear hcz21_2
          try clear hcz21_3
          try clear hcz21_4
          try clear hcz22_0
          try clear hcz22_1
          try clear hcz22_2
          try clear hcz22_3
          try clear hcz22_4
          try clear hcz31_0
          try clear hcz31_1
          try clear hcz31_2
          try clear hcz31_3
          try clear hcz31_4
          try clear hcz35_0
          try clear hcz35_1
          try clear hcz35_2
          try clear hcz35_3
          try clear hcz35_4
          try clear hcz36_0
          try clear hcz36_1
          try clear hcz36_2
          try clear hcz36_3
          try clear hcz36_4
          try clear hcz41_0
          try clear hcz41_1
          try clear hcz41_2
          try clear hcz41_3
          try clear hcz41_4
          try clear hcz42_0
          try clear hcz42_1
          try clear hcz42_2
          try clear hcz42_3
          try clear hcz42_4
          try clear hcz49_0
          try clear hcz49_1
          try clear hcz49_2
          try clear hcz49_3
          try clear hcz49_4
          try clear hcz50_0
          try clear hcz50_1
          try clear hcz50_2
          try clear hcz50_3
          try clear hcz50_4
          try clear hcz58_0
          try clear hcz58_1
          try clear hcz58_2
          try clear hcz58_3
          try clear hcz58_4
          try clear hcz59_0
          try clear hcz59_1
          try clear hcz59_2
          try clear hcz59_3
          try clear hcz59_4
          try clear hcz9_0
          try clear hcz9_1
          try clear hcz9_2
          try clear hcz9_3
          try clear hcz9_4
          try clear hfz10_0
          try clear hfz10_1
          try clear hfz10_2
          try clear hfz10_3
          try clear hfz10_4
          try clear hfz15_0
          try clear hfz15_1
          try clear hfz15_2
          try clear hfz15_3
          try clear hfz15_4
          try clear hfz16_0
          try clear hfz16_1
          try clear hfz16_2
          try clear hfz16_3
          try clear hfz16_4
          try clear hfz18_0
          try clear hfz18_1
          try clear hfz18_2
          try clear hfz18_3
          try clear hfz18_4
          try clear hfz21_0
          try clear hfz21_1
          try clear hfz21_2
          try clear hfz21_3
          try clear hfz21_4
          try clear hfz22_0
          try clear hfz22_1
          try clear hfz22_2
          try clear hfz22_3
          try clear hfz22_4
          try clear hfz31_0
          try clear hfz31_1
          try clear hfz31_2
          try clear hfz31_3
          try clear hfz31_4
          try clear hfz35_0
          try clear hfz35_1
          try clear hfz35_2
          try clear hfz35_3
          try clear hfz35_4
          try clear hfz36_0
          try clear hfz36_1
          try clear hfz36_2
          try clear hfz36_3
          try clear hfz36_4
          try clear hfz41_0
          try clear hfz41_1
          try clear hfz41_2
          try clear hfz41_3
          try clear hfz41_4
          try clear hfz42_0
          try clear hfz42_1
          try clear hfz42_2
          try clear hfz42_3
          try clear hfz42_4
          try clear hfz49_0
          try clear hfz49_1
          try clear hfz49_2
          try clear hfz49_3
          try clear hfz49_4
          try clear hfz50_0
          try clear hfz50_1
          try clear hfz50_2
          try clear hfz50_3
          try clear hfz50_4
          try clear hfz58_0
          try clear hfz58_1
          try clear hfz58_2
          try clear hfz58_3
          try clear hfz58_4
          try clear hfz59_0
          try clear hfz59_1
          try clear hfz59_2
          try clear hfz59_3
          try clear hfz59_4
          try clear hfz9_0
          try clear hfz9_1
          try clear hfz9_2
          try clear hfz9_3
          try clear hfz9_4
          try clear p2
          try clear p6
          obtain ⟨kq, x13_28, rfl, HA, HJ28, BK539, BK540, BK544, BK545, BK552, BK559, HB⟩ := hcut
          cases kq with
          | zero => exact absurd HA.out (by simp [armadalaw07_VerBuilds.j1])
          | succ kj28 =>
            have H := HA.out
            clear HA
            simp only [armadalaw07_VerBuilds.j1] at H
            replace H := Option.bind_eq_some_iff.mp H
            obtain ⟨t560, A610, H⟩ := H
            replace H : ((ver_Compare.f kj28 a0_0 a0_1 a0_2 a0_3 (⟨#[]⟩ : ByteArray) a1_0 a1_1 a1_2 a1_3 a1_4).bind fun t561 => (if t560 = t561 then (if (t546 == t553 && (t547 == t554 && (t548 == t555 && (t549.toList == t556.toList && (t550.toList == t557.toList))))) = true then (if t551 = t558 then ((ver_Compare.f kj28 a0_0 a0_1 a0_2 a0_3 a0_4 a0_0 a0_1 a0_2 (⟨#[]⟩ : ByteArray) a0_4).bind fun t562 => (if t562 = x13_28 then ((armadalaw07_live.f kj28).bind fun t563 => (some t563)) else (some false))) else (some false)) else (some false)) else (some false))) = some true := H
            have A61 := Aside0.mk A610
            clear A610
            replace H := Option.bind_eq_some_iff.mp H
            obtain ⟨t561, A620, H⟩ := H
            replace H : (if t560 = t561 then (if (t546 == t553 && (t547 == t554 && (t548 == t555 && (t549.toList == t556.toList && (t550.toList == t557.toList))))) = true then (if t551 = t558 then ((ver_Compare.f kj28 a0_0 a0_1 a0_2 a0_3 a0_4 a0_0 a0_1 a0_2 (⟨#[]⟩ : ByteArray) a0_4).bind fun t562 => (if t562 = x13_28 then ((armadalaw07_live.f kj28).bind fun t563 => (some t563)) else (some false))) else (some false)) else (some false)) else (some false)) = some true := H
            have A62 := Aside0.mk A620
            clear A620
            by_cases c63 : t560 = t561
            · rw [if_pos c63] at H
              have c63b0 : (t560 == t561) = true := beq_iff_eq.mpr c63
              have c63b1 : (t560 != t561) = false := bne_eq_false_iff_eq.mpr c63
              clear c63
              by_cases c64 : (t546 == t553 && (t547 == t554 && (t548 == t555 && (t549.toList == t556.toList && (t550.toList == t557.toList))))) = true
              · rw [if_pos c64] at H
                have c64b0 : (t546 == t553 && (t547 == t554 && (t548 == t555 && (t549.toList == t556.toList && (t550.toList == t557.toList))))) = true := c64
                (try (have c64b1 : decide (t546 = t553 && (t547 == t554 && (t548 == t555 && (t549.toList == t556.toList && (t550.toList == t557.toList))))) = true := by simpa using c64))
                (try (have c64b2 : (t546 == t553 && (t547 == t554 && (t548 == t555 && (t549.toList == t556.toList && (t550.toList == t557.toList))))) = true := by simpa using c64))
                clear c64
                by_cases c65 : t551 = t558
                · rw [if_pos c65] at H
                  have c65b0 : (t551 == t558) = true := beq_iff_eq.mpr c65
                  have c65b1 : (t551 != t558) = false := bne_eq_false_iff_eq.mpr c65
                  clear c65
                  replace H := Option.bind_eq_some_iff.mp H
                  obtain ⟨t562, A660, H⟩ := H
                  replace H : (if t562 = x13_28 then ((armadalaw07_live.f kj28).bind fun t563 => (some t563)) else (some false)) = some true := H
                  have A66 := Aside0.mk A660
                  clear A660
                  by_cases c67 : t562 = x13_28
                  · rw [if_pos c67] at H
                    have c67b0 : (t562 == x13_28) = true := beq_iff_eq.mpr c67
                    have c67b1 : (t562 != x13_28) = false := bne_eq_false_iff_eq.mpr c67
                    clear c67
                    replace H := Option.bind_eq_some_iff.mp H
                    obtain ⟨t563, A680, H⟩ := H
                    replace H : (some t563) = some true := H
                    have A68 := Aside0.mk A680
                    clear A680
                    obtain rfl := Option.some.inj H
                    try go_wp2
                    have n0_ := Aside0.mk (blk_drew BK539.out)
                    have n1_ := Aside0.mk (blk_drew BK540.out)
                    have n2_ := Aside0.mk (blk_drew BK544.out)
                    have n3_ := Aside0.mk (blk_drew BK545.out)
                    have n4_ := Aside0.mk (blk_drew BK552.out)
                    have n5_ := Aside0.mk (blk_drew BK559.out)
                    have n6_ := Aside0.mk (below_drew1 HB.out)
                    clear BK539
                    clear BK540
                    clear BK544
                    clear BK545
                    clear BK552
                    clear BK559
                    clear HB
                    have BK539 := n0_
                    have BK540 := n1_
                    have BK544 := n2_
                    have BK545 := n3_
                    have BK552 := n4_
                    have BK559 := n5_
                    have HB := n6_
                    clear n0_ n1_ n2_ n3_ n4_ n5_ n6_
                    refine start_ (n := 28) (S := fun w' => w'.cell? ⟨gb539, 0, none⟩ = some (.int .i64 a0_0) ∧ w'.cell? ⟨gb539, 1, none⟩ = some (.int .i64 a0_1) ∧ w'.cell? ⟨gb539, 2, none⟩ = some (.int .i64 a0_2) ∧ w'.cell? ⟨gb539, 3, none⟩ = some (.string a0_3) ∧ w'.cell? ⟨gb539, 4, none⟩ = some (.string a0_4) ∧ w'.cell? ⟨gb540, 0, none⟩ = some (.int .i64 a1_0) ∧ w'.cell? ⟨gb540, 1, none⟩ = some (.int .i64 a1_1) ∧ w'.cell? ⟨gb540, 2, none⟩ = some (.int .i64 a1_2) ∧ w'.cell? ⟨gb540, 3, none⟩ = some (.string a1_3) ∧ w'.cell? ⟨gb540, 4, none⟩ = some (.string a1_4) ∧ w'.cell? ⟨gb544, 0, none⟩ = some (.int .i64 a0_0) ∧ w'.cell? ⟨gb544, 1, none⟩ = some (.int .i64 a0_1) ∧ w'.cell? ⟨gb544, 2, none⟩ = some (.int .i64 a0_2) ∧ w'.cell? ⟨gb544, 3, none⟩ = some (.string a0_3) ∧ w'.cell? ⟨gb544, 4, none⟩ = some (.string (⟨#[]⟩ : ByteArray)) ∧ w'.cell? ⟨gb552, 0, none⟩ = some (.int .i64 t546) ∧ w'.cell? ⟨gb552, 1, none⟩ = some (.int .i64 t547) ∧ w'.cell? ⟨gb552, 2, none⟩ = some (.int .i64 t548) ∧ w'.cell? ⟨gb552, 3, none⟩ = some (.string t549) ∧ w'.cell? ⟨gb552, 4, none⟩ = some (.string t550) ∧ w'.cell? ⟨gb559, 0, none⟩ = some (.int .i64 t553) ∧ w'.cell? ⟨gb559, 1, none⟩ = some (.int .i64 t554) ∧ w'.cell? ⟨gb559, 2, none⟩ = some (.int .i64 t555) ∧ w'.cell? ⟨gb559, 3, none⟩ = some (.string t556) ∧ w'.cell? ⟨gb559, 4, none⟩ = some (.string t557) ∧ w'.cell? ⟨gb545, 0, none⟩ = some (.int .i64 a0_0) ∧ w'.cell? ⟨gb545, 1, none⟩ = some (.int .i64 a0_1) ∧ w'.cell? ⟨gb545, 2, none⟩ = some (.int .i64 a0_2) ∧ w'.cell? ⟨gb545, 3, none⟩ = some (.string (⟨#[]⟩ : ByteArray)) ∧ w'.cell? ⟨gb545, 4, none⟩ = some (.string a0_4)) (ds := []) #[false, false, false, false, false, false, false, false, false, false, false, false, false, false, false, false, false, false, false, false, false, false, false, false, false, false, false, false] (by kernel_rfl) rfl rfl ⟨(blk_cell BK539.out 0).trans rfl, (blk_cell BK539.out 1).trans rfl, (blk_cell BK539.out 2).trans rfl, (blk_cell BK539.out 3).trans rfl, (blk_cell BK539.out 4).trans rfl, (blk_cell BK540.out 0).trans rfl, (blk_cell BK540.out 1).trans rfl, (blk_cell BK540.out 2).trans rfl, (blk_cell BK540.out 3).trans rfl, (blk_cell BK540.out 4).trans rfl, (blk_cell BK544.out 0).trans rfl, (blk_cell BK544.out 1).trans rfl, (blk_cell BK544.out 2).trans rfl, (blk_cell BK544.out 3).trans rfl, (blk_cell BK544.out 4).trans rfl, (blk_cell BK552.out 0).trans rfl, (blk_cell BK552.out 1).trans rfl, (blk_cell BK552.out 2).trans rfl, (blk_cell BK552.out 3).trans rfl, (blk_cell BK552.out 4).trans rfl, (blk_cell BK559.out 0).trans rfl, (blk_cell BK559.out 1).trans rfl, (blk_cell BK559.out 2).trans rfl, (blk_cell BK559.out 3).trans rfl, (blk_cell BK559.out 4).trans rfl, (blk_cell BK545.out 0).trans rfl, (blk_cell BK545.out 1).trans rfl, (blk_cell BK545.out 2).trans rfl, (blk_cell BK545.out 3).trans rfl, (blk_cell BK545.out 4).trans rfl⟩ (fun hHeld => ?_); refine with_tabW armadalaw07_VerBuilds.tab12 armadalaw07_VerBuilds.bits12 (fun HT_ HW_ => ?_)
                    generalize wc.drew = w69 at BK539 BK540 BK544 BK545 BK552 BK559 HB hHeld ⊢
                    refine take_ (i := 0) (N := some 60) (v := ?_) (a' := ?_) #[true, false, false, false, false, false, false, false, false, false, false, false, false, false, false, false, false, false, false, false, false, false, false, false, false, false, false, false] rfl rfl (take_ofW HT_.out HW_.out (by kernel_rfl)) (fun _ _ _ h => h) (Or.inl ⟨by rfl, ?_⟩) hHeld ?_ ?_
                    rotate_left
                    · rintro w' ⟨s0, s1, s2, s3, s4, s5, s6, s7, s8, s9, s10, s11, s12, s13, s14, s15, s16, s17, s18, s19, s20, s21, s22, s23, s24, s25, s26, s27, s28, s29⟩
                      go_simp
                      with_reducible rfl
                    rotate_left
                    · simp only [Act.put, List.setIfInBounds_toArray, List.set_cons_zero, List.set_cons_succ, i64_w, i32_w]
                      rfl
                    refine take_ (i := 1) (N := some 61) (v := ?_) (a' := ?_) #[true, true, false, false, false, false, false, false, false, false, false, false, false, false, false, false, false, false, false, false, false, false, false, false, false, false, false, false] rfl rfl (take_ofW HT_.out HW_.out (by kernel_rfl)) (fun _ _ _ h => h) (Or.inl ⟨by rfl, ?_⟩) hHeld ?_ ?_
                    rotate_left
                    · rintro w' ⟨s0, s1, s2, s3, s4, s5, s6, s7, s8, s9, s10, s11, s12, s13, s14, s15, s16, s17, s18, s19, s20, s21, s22, s23, s24, s25, s26, s27, s28, s29⟩
                      go_simp
                      with_reducible rfl
                    rotate_left
                    · simp only [Act.put, List.setIfInBounds_toArray, List.set_cons_zero, List.set_cons_succ, i64_w, i32_w]
                      rfl
                    refine take_ (i := 3) (N := some 63) (v := ?_) (a' := ?_) #[true, true, false, true, false, false, false, false, false, false, false, false, false, false, false, false, false, false, false, false, false, false, false, false, false, false, false, false] rfl rfl (take_ofW HT_.out HW_.out (by kernel_rfl)) (fun _ _ _ h => h) (Or.inl ⟨by rfl, ?_⟩) hHeld ?_ ?_
                    rotate_left
                    · rintro w' ⟨s0, s1, s2, s3, s4, s5, s6, s7, s8, s9, s10, s11, s12, s13, s14, s15, s16, s17, s18, s19, s20, s21, s22, s23, s24, s25, s26, s27, s28, s29⟩
                      go_simp
                      with_reducible rfl
                    rotate_left
                    · simp only [Act.put, List.setIfInBounds_toArray, List.set_cons_zero, List.set_cons_succ, i64_w, i32_w]
                      rfl
                    refine take_ (i := 4) (N := some 64) (v := ?_) (a' := ?_) #[true, true, false, true, true, false, false, false, false, false, false, false, false, false, false, false, false, false, false, false, false, false, false, false, false, false, false, false] rfl rfl (take_ofW HT_.out HW_.out (by kernel_rfl)) (fun _ _ _ h => h) (Or.inl ⟨by rfl, ?_⟩) hHeld ?_ ?_
                    rotate_left
                    · rintro w' ⟨s0, s1, s2, s3, s4, s5, s6, s7, s8, s9, s10, s11, s12, s13, s14, s15, s16, s17, s18, s19, s20, s21, s22, s23, s24, s25, s26, s27, s28, s29⟩
                      go_simp
                      with_reducible rfl
                    rotate_left
                    · simp only [Act.put, List.setIfInBounds_toArray, List.set_cons_zero, List.set_cons_succ, i64_w, i32_w]
                      rfl
                    refine one_ (i := 2) (N := some 62) #[true, true, true, true, true, false, false, false, false, false, false, false, false, false, false, false, false, false, false, false, false, false, false, false, false, false, false, false] rfl rfl (one_of HT_.out (by kernel_rfl)) (by decide) (fun K hK => ?_)
                    refine goes_ Tryd.func19 (by kernel_rfl) rfl #[.agg #[.int .i64 a0_0, .int .i64 a0_1, .int .i64 a0_2, .string a0_3, .string a0_4], .agg #[.int .i64 a1_0, .int .i64 a1_1, .int .i64 a1_2, .string a1_3, .string a1_4]] (by rfl) rfl rfl (by (try simp only [List.map_toArray, List.map_cons, List.map_nil]); first | done | rfl | (simp only [List.length_drop, List.length_take]; rfl)) ?_
                    with_reducible refine (ver_Compare.calls kj28 a0_0 a0_1 a0_2 a0_3 a0_4 a1_0 a1_1 a1_2 a1_3 a1_4 t560 _ A61.out).mono ?_
                    rintro e w70 ⟨rfl, hb⟩
                    refine ⟨_, rfl, ?_⟩
                    have n0_ := Aside0.mk (blk_below (g := gb539) (o := .cells #[.int .i64 a0_0, .int .i64 a0_1, .int .i64 a0_2, .string a0_3, .string a0_4] 23 (0, 0)) (by (with_reducible repeat (first | refine blk_drewN ?_ _ | refine blk_drew ?_ | refine blk_alloc ?_ _)); exact BK539.out) hb)
                    have n1_ := Aside0.mk (blk_below (g := gb540) (o := .cells #[.int .i64 a1_0, .int .i64 a1_1, .int .i64 a1_2, .string a1_3, .string a1_4] 23 (0, 0)) (by (with_reducible repeat (first | refine blk_drewN ?_ _ | refine blk_drew ?_ | refine blk_alloc ?_ _)); exact BK540.out) hb)
                    have n2_ := Aside0.mk (blk_below (g := gb544) (o := .cells #[.int .i64 a0_0, .int .i64 a0_1, .int .i64 a0_2, .string a0_3, .string (⟨#[]⟩ : ByteArray)] 23 (0, 0)) (by (with_reducible repeat (first | refine blk_drewN ?_ _ | refine blk_drew ?_ | refine blk_alloc ?_ _)); exact BK544.out) hb)
                    have n3_ := Aside0.mk (blk_below (g := gb545) (o := .cells #[.int .i64 a0_0, .int .i64 a0_1, .int .i64 a0_2, .string (⟨#[]⟩ : ByteArray), .string a0_4] 23 (0, 0)) (by (with_reducible repeat (first | refine blk_drewN ?_ _ | refine blk_drew ?_ | refine blk_alloc ?_ _)); exact BK545.out) hb)
                    have n4_ := Aside0.mk (blk_below (g := gb552) (o := .cells #[.int .i64 t546, .int .i64 t547, .int .i64 t548, .string t549, .string t550] 23 (0, 0)) (by (with_reducible repeat (first | refine blk_drewN ?_ _ | refine blk_drew ?_ | refine blk_alloc ?_ _)); exact BK552.out) hb)
                    have n5_ := Aside0.mk (blk_below (g := gb559) (o := .cells #[.int .i64 t553, .int .i64 t554, .int .i64 t555, .string t556, .string t557] 23 (0, 0)) (by (with_reducible repeat (first | refine blk_drewN ?_ _ | refine blk_drew ?_ | refine blk_alloc ?_ _)); exact BK559.out) hb)
                    have n6_ := Aside0.mk (below_step (by repeat (first | (with_reducible first | exact HB.out | apply below_alloc | apply pw_below_drewN | apply below_drew1 | refine below_set ?_ GE539.out | refine below_set ?_ GE540.out | refine below_set ?_ GE544.out | refine below_set ?_ GE545.out | refine below_set ?_ GE552.out | refine below_set ?_ GE559.out) | exact HB.out)) hb)
                    clear BK539
                    clear BK540
                    clear BK544
                    clear BK545
                    clear BK552
                    clear BK559
                    clear HB
                    have BK539 := n0_
                    have BK540 := n1_
                    have BK544 := n2_
                    have BK545 := n3_
                    have BK552 := n4_
                    have BK559 := n5_
                    have HB := n6_
                    clear n0_ n1_ n2_ n3_ n4_ n5_ n6_
                    (try clear hb)
                    (try clear hb2)
                    (try clear hk)
                    (try clear hi)
                    refine hK.out _ _ ⟨(blk_cell BK539.out 0).trans rfl, (blk_cell BK539.out 1).trans rfl, (blk_cell BK539.out 2).trans rfl, (blk_cell BK539.out 3).trans rfl, (blk_cell BK539.out 4).trans rfl, (blk_cell BK540.out 0).trans rfl, (blk_cell BK540.out 1).trans rfl, (blk_cell BK540.out 2).trans rfl, (blk_cell BK540.out 3).trans rfl, (blk_cell BK540.out 4).trans rfl, (blk_cell BK544.out 0).trans rfl, (blk_cell BK544.out 1).trans rfl, (blk_cell BK544.out 2).trans rfl, (blk_cell BK544.out 3).trans rfl, (blk_cell BK544.out 4).trans rfl, (blk_cell BK552.out 0).trans rfl, (blk_cell BK552.out 1).trans rfl, (blk_cell BK552.out 2).trans rfl, (blk_cell BK552.out 3).trans rfl, (blk_cell BK552.out 4).trans rfl, (blk_cell BK559.out 0).trans rfl, (blk_cell BK559.out 1).trans rfl, (blk_cell BK559.out 2).trans rfl, (blk_cell BK559.out 3).trans rfl, (blk_cell BK559.out 4).trans rfl, (blk_cell BK545.out 0).trans rfl, (blk_cell BK545.out 1).trans rfl, (blk_cell BK545.out 2).trans rfl, (blk_cell BK545.out 3).trans rfl, (blk_cell BK545.out 4).trans rfl⟩ (fun hHeld => ?_)
                    clear hK K
                    refine norm_ (a' := ?_) ?_ ?_
                    rotate_left
                    · show Act.put _ (some 62) _ = _
                      simp only [Act.put, List.setIfInBounds_toArray, List.set_cons_zero, List.set_cons_succ, i64_w, i32_w]
                      rfl
                    refine one_ (i := 5) (N := some 65) #[true, true, true, true, true, true, false, false, false, false, false, false, false, false, false, false, false, false, false, false, false, false, false, false, false, false, false, false] rfl rfl (one_of HT_.out (by kernel_rfl)) (by decide) (fun K hK => ?_)
                    refine goes_ Tryd.func19 (by kernel_rfl) rfl #[.agg #[.int .i64 a0_0, .int .i64 a0_1, .int .i64 a0_2, .string a0_3, .string (⟨#[]⟩ : ByteArray)], .agg #[.int .i64 a1_0, .int .i64 a1_1, .int .i64 a1_2, .string a1_3, .string a1_4]] (by rfl) rfl rfl (by (try simp only [List.map_toArray, List.map_cons, List.map_nil]); first | done | rfl | (simp only [List.length_drop, List.length_take]; rfl)) ?_
                    with_reducible refine (ver_Compare.calls kj28 a0_0 a0_1 a0_2 a0_3 (⟨#[]⟩ : ByteArray) a1_0 a1_1 a1_2 a1_3 a1_4 t561 _ A62.out).mono ?_
                    rintro e w71 ⟨rfl, hb⟩
                    refine ⟨_, rfl, ?_⟩
                    have n0_ := Aside0.mk (blk_below (g := gb539) (o := .cells #[.int .i64 a0_0, .int .i64 a0_1, .int .i64 a0_2, .string a0_3, .string a0_4] 23 (0, 0)) (by (with_reducible repeat (first | refine blk_drewN ?_ _ | refine blk_drew ?_ | refine blk_alloc ?_ _)); exact BK539.out) hb)
                    have n1_ := Aside0.mk (blk_below (g := gb540) (o := .cells #[.int .i64 a1_0, .int .i64 a1_1, .int .i64 a1_2, .string a1_3, .string a1_4] 23 (0, 0)) (by (with_reducible repeat (first | refine blk_drewN ?_ _ | refine blk_drew ?_ | refine blk_alloc ?_ _)); exact BK540.out) hb)
                    have n2_ := Aside0.mk (blk_below (g := gb544) (o := .cells #[.int .i64 a0_0, .int .i64 a0_1, .int .i64 a0_2, .string a0_3, .string (⟨#[]⟩ : ByteArray)] 23 (0, 0)) (by (with_reducible repeat (first | refine blk_drewN ?_ _ | refine blk_drew ?_ | refine blk_alloc ?_ _)); exact BK544.out) hb)
                    have n3_ := Aside0.mk (blk_below (g := gb545) (o := .cells #[.int .i64 a0_0, .int .i64 a0_1, .int .i64 a0_2, .string (⟨#[]⟩ : ByteArray), .string a0_4] 23 (0, 0)) (by (with_reducible repeat (first | refine blk_drewN ?_ _ | refine blk_drew ?_ | refine blk_alloc ?_ _)); exact BK545.out) hb)
                    have n4_ := Aside0.mk (blk_below (g := gb552) (o := .cells #[.int .i64 t546, .int .i64 t547, .int .i64 t548, .string t549, .string t550] 23 (0, 0)) (by (with_reducible repeat (first | refine blk_drewN ?_ _ | refine blk_drew ?_ | refine blk_alloc ?_ _)); exact BK552.out) hb)
                    have n5_ := Aside0.mk (blk_below (g := gb559) (o := .cells #[.int .i64 t553, .int .i64 t554, .int .i64 t555, .string t556, .string t557] 23 (0, 0)) (by (with_reducible repeat (first | refine blk_drewN ?_ _ | refine blk_drew ?_ | refine blk_alloc ?_ _)); exact BK559.out) hb)
                    have n6_ := Aside0.mk (below_step (by repeat (first | (with_reducible first | exact HB.out | apply below_alloc | apply pw_below_drewN | apply below_drew1 | refine below_set ?_ GE539.out | refine below_set ?_ GE540.out | refine below_set ?_ GE544.out | refine below_set ?_ GE545.out | refine below_set ?_ GE552.out | refine below_set ?_ GE559.out) | exact HB.out)) hb)
                    clear BK539
                    clear BK540
                    clear BK544
                    clear BK545
                    clear BK552
                    clear BK559
                    clear HB
                    have BK539 := n0_
                    have BK540 := n1_
                    have BK544 := n2_
                    have BK545 := n3_
                    have BK552 := n4_
                    have BK559 := n5_
                    have HB := n6_
                    clear n0_ n1_ n2_ n3_ n4_ n5_ n6_
                    (try clear hb)
                    (try clear hb2)
                    (try clear hk)
                    (try clear hi)
                    refine hK.out _ _ ⟨(blk_cell BK539.out 0).trans rfl, (blk_cell BK539.out 1).trans rfl, (blk_cell BK539.out 2).trans rfl, (blk_cell BK539.out 3).trans rfl, (blk_cell BK539.out 4).trans rfl, (blk_cell BK540.out 0).trans rfl, (blk_cell BK540.out 1).trans rfl, (blk_cell BK540.out 2).trans rfl, (blk_cell BK540.out 3).trans rfl, (blk_cell BK540.out 4).trans rfl, (blk_cell BK544.out 0).trans rfl, (blk_cell BK544.out 1).trans rfl, (blk_cell BK544.out 2).trans rfl, (blk_cell BK544.out 3).trans rfl, (blk_cell BK544.out 4).trans rfl, (blk_cell BK552.out 0).trans rfl, (blk_cell BK552.out 1).trans rfl, (blk_cell BK552.out 2).trans rfl, (blk_cell BK552.out 3).trans rfl, (blk_cell BK552.out 4).trans rfl, (blk_cell BK559.out 0).trans rfl, (blk_cell BK559.out 1).trans rfl, (blk_cell BK559.out 2).trans rfl, (blk_cell BK559.out 3).trans rfl, (blk_cell BK559.out 4).trans rfl, (blk_cell BK545.out 0).trans rfl, (blk_cell BK545.out 1).trans rfl, (blk_cell BK545.out 2).trans rfl, (blk_cell BK545.out 3).trans rfl, (blk_cell BK545.out 4).trans rfl⟩ (fun hHeld => ?_)
                    clear hK K
                    refine norm_ (a' := ?_) ?_ ?_
                    rotate_left
                    · show Act.put _ (some 65) _ = _
                      simp only [Act.put, List.setIfInBounds_toArray, List.set_cons_zero, List.set_cons_succ, i64_w, i32_w]
                      rfl
                    refine pure_ (i := 6) (N := some 66) (v := ?_) (a' := ?_) #[true, true, true, true, true, true, true, false, false, false, false, false, false, false, false, false, false, false, false, false, false, false, false, false, false, false, false, false] rfl rfl (any_of HT_.out (by kernel_rfl)) (fun _ _ _ h => h) (Or.inl ⟨by rfl, ?_⟩) ?_ ?_
                    rotate_left
                    · intro w'
                      go_simp
                      with_reducible rfl
                    rotate_left
                    · simp only [Act.put, List.setIfInBounds_toArray, List.set_cons_zero, List.set_cons_succ, i64_w, i32_w]
                      rfl
                    refine pure_ (i := 7) (N := some 67) (v := ?_) (a' := ?_) #[true, true, true, true, true, true, true, true, false, false, false, false, false, false, false, false, false, false, false, false, false, false, false, false, false, false, false, false] rfl rfl (any_of HT_.out (by kernel_rfl)) (fun _ _ _ h => h) (Or.inl ⟨by rfl, ?_⟩) ?_ ?_
                    rotate_left
                    · intro w'
                      go_simp
                      with_reducible rfl
                    rotate_left
                    · simp only [Act.put, List.setIfInBounds_toArray, List.set_cons_zero, List.set_cons_succ, i64_w, i32_w]
                      rfl
                    refine take_ (i := 8) (N := some 68) (v := ?_) (a' := ?_) #[true, true, true, true, true, true, true, true, true, false, false, false, false, false, false, false, false, false, false, false, false, false, false, false, false, false, false, false] rfl rfl (take_ofW HT_.out HW_.out (by kernel_rfl)) (fun _ _ _ h => h) (Or.inl ⟨by rfl, ?_⟩) hHeld ?_ ?_
                    rotate_left
                    · rintro w' ⟨s0, s1, s2, s3, s4, s5, s6, s7, s8, s9, s10, s11, s12, s13, s14, s15, s16, s17, s18, s19, s20, s21, s22, s23, s24, s25, s26, s27, s28, s29⟩
                      go_simp
                      with_reducible rfl
                    rotate_left
                    · simp only [Act.put, List.setIfInBounds_toArray, List.set_cons_zero, List.set_cons_succ, i64_w, i32_w]
                      rfl
                    refine take_ (i := 9) (N := some 69) (v := ?_) (a' := ?_) #[true, true, true, true, true, true, true, true, true, true, false, false, false, false, false, false, false, false, false, false, false, false, false, false, false, false, false, false] rfl rfl (take_ofW HT_.out HW_.out (by kernel_rfl)) (fun _ _ _ h => h) (Or.inl ⟨by rfl, ?_⟩) hHeld ?_ ?_
                    rotate_left
                    · rintro w' ⟨s0, s1, s2, s3, s4, s5, s6, s7, s8, s9, s10, s11, s12, s13, s14, s15, s16, s17, s18, s19, s20, s21, s22, s23, s24, s25, s26, s27, s28, s29⟩
                      go_simp
                      with_reducible rfl
                    rotate_left
                    · simp only [Act.put, List.setIfInBounds_toArray, List.set_cons_zero, List.set_cons_succ, i64_w, i32_w]
                      rfl
                    refine pure_ (i := 10) (N := some 70) (v := ?_) (a' := ?_) #[true, true, true, true, true, true, true, true, true, true, true, false, false, false, false, false, false, false, false, false, false, false, false, false, false, false, false, false] rfl rfl (any_of HT_.out (by kernel_rfl)) (fun _ _ _ h => h) (Or.inl ⟨by rfl, ?_⟩) ?_ ?_
                    rotate_left
                    · intro w'
                      go_simp
                      with_reducible rfl
                    rotate_left
                    · simp only [Act.put, List.setIfInBounds_toArray, List.set_cons_zero, List.set_cons_succ, i64_w, i32_w]
                      rfl
                    refine pure_ (i := 11) (N := some 71) (v := ?_) (a' := ?_) #[true, true, true, true, true, true, true, true, true, true, true, true, false, false, false, false, false, false, false, false, false, false, false, false, false, false, false, false] rfl rfl (any_of HT_.out (by kernel_rfl)) (fun _ _ _ h => h) (Or.inl ⟨by rfl, ?_⟩) ?_ ?_
                    rotate_left
                    · intro w'
                      go_simp
                      with_reducible rfl
                    rotate_left
                    · simp only [Act.put, List.setIfInBounds_toArray, List.set_cons_zero, List.set_cons_succ, i64_w, i32_w]
                      rfl
                    refine pure_ (i := 12) (N := some 72) (v := ?_) (a' := ?_) #[true, true, true, true, true, true, true, true, true, true, true, true, true, false, false, false, false, false, false, false, false, false, false, false, false, false, false, false] rfl rfl (any_of HT_.out (by kernel_rfl)) (fun _ _ _ h => h) (Or.inl ⟨by rfl, ?_⟩) ?_ ?_
                    rotate_left
                    · intro w'
                      go_simp
                      with_reducible rfl
                    rotate_left
                    · simp only [Act.put, List.setIfInBounds_toArray, List.set_cons_zero, List.set_cons_succ, i64_w, i32_w]
                      rfl
                    refine pure_ (i := 13) (N := some 73) (v := ?_) (a' := ?_) #[true, true, true, true, true, true, true, true, true, true, true, true, true, true, false, false, false, false, false, false, false, false, false, false, false, false, false, false] rfl rfl (any_of HT_.out (by kernel_rfl)) (fun _ _ _ h => h) (Or.inl ⟨by rfl, ?_⟩) ?_ ?_
                    rotate_left
                    · intro w'
                      go_simp
                      with_reducible rfl
                    rotate_left
                    · simp only [Act.put, List.setIfInBounds_toArray, List.set_cons_zero, List.set_cons_succ, i64_w, i32_w]
                      rfl
                    refine pure_ (i := 14) (N := some 74) (v := ?_) (a' := ?_) #[true, true, true, true, true, true, true, true, true, true, true, true, true, true, true, false, false, false, false, false, false, false, false, false, false, false, false, false] rfl rfl (any_of HT_.out (by kernel_rfl)) (fun _ _ _ h => h) (Or.inl ⟨by rfl, ?_⟩) ?_ ?_
                    rotate_left
                    · intro w'
                      go_simp
                      with_reducible rfl
                    rotate_left
                    · simp only [Act.put, List.setIfInBounds_toArray, List.set_cons_zero, List.set_cons_succ, i64_w, i32_w]
                      rfl
                    refine pure_ (i := 15) (N := some 75) (v := ?_) (a' := ?_) #[true, true, true, true, true, true, true, true, true, true, true, true, true, true, true, true, false, false, false, false, false, false, false, false, false, false, false, false] rfl rfl (any_of HT_.out (by kernel_rfl)) (fun _ _ _ h => h) (Or.inl ⟨by rfl, ?_⟩) ?_ ?_
                    rotate_left
                    · intro w'
                      go_simp
                      with_reducible rfl
                    rotate_left
                    · simp only [Act.put, List.setIfInBounds_toArray, List.set_cons_zero, List.set_cons_succ, i64_w, i32_w]
                      rfl
                    refine pure_ (i := 16) (N := some 76) (v := ?_) (a' := ?_) #[true, true, true, true, true, true, true, true, true, true, true, true, true, true, true, true, true, false, false, false, false, false, false, false, false, false, false, false] rfl rfl (any_of HT_.out (by kernel_rfl)) (fun _ _ _ h => h) (Or.inl ⟨by rfl, ?_⟩) ?_ ?_
                    rotate_left
                    · intro w'
                      go_simp
                      with_reducible rfl
                    rotate_left
                    · simp only [Act.put, List.setIfInBounds_toArray, List.set_cons_zero, List.set_cons_succ, i64_w, i32_w]
                      rfl
                    refine pure_ (i := 17) (N := some 77) (v := ?_) (a' := ?_) #[true, true, true, true, true, true, true, true, true, true, true, true, true, true, true, true, true, true, false, false, false, false, false, false, false, false, false, false] rfl rfl (any_of HT_.out (by kernel_rfl)) (fun _ _ _ h => h) (Or.inl ⟨by rfl, ?_⟩) ?_ ?_
                    rotate_left
                    · intro w'
                      go_simp
                      with_reducible rfl
                    rotate_left
                    · simp only [Act.put, List.setIfInBounds_toArray, List.set_cons_zero, List.set_cons_succ, i64_w, i32_w]
                      rfl
                    refine pure_ (i := 21) (N := some 81) (v := ?_) (a' := ?_) #[true, true, true, true, true, true, true, true, true, true, true, true, true, true, true, true, true, true, false, false, false, true, false, false, false, false, false, false] rfl rfl (any_of HT_.out (by kernel_rfl)) (fun _ _ _ h => h) (Or.inl ⟨by rfl, ?_⟩) ?_ ?_
                    rotate_left
                    · intro w'
                      go_simp
                      with_reducible rfl
                    rotate_left
                    · simp only [Act.put, List.setIfInBounds_toArray, List.set_cons_zero, List.set_cons_succ, i64_w, i32_w]
                      rfl
                    refine take_ (i := 18) (N := some 78) (v := ?_) (a' := ?_) #[true, true, true, true, true, true, true, true, true, true, true, true, true, true, true, true, true, true, true, false, false, true, false, false, false, false, false, false] rfl rfl (take_ofW HT_.out HW_.out (by kernel_rfl)) (fun _ _ _ h => h) (Or.inl ⟨by rfl, ?_⟩) hHeld ?_ ?_
                    rotate_left
                    · rintro w' ⟨s0, s1, s2, s3, s4, s5, s6, s7, s8, s9, s10, s11, s12, s13, s14, s15, s16, s17, s18, s19, s20, s21, s22, s23, s24, s25, s26, s27, s28, s29⟩
                      go_simp
                      with_reducible rfl
                    rotate_left
                    · simp only [Act.put, List.setIfInBounds_toArray, List.set_cons_zero, List.set_cons_succ, i64_w, i32_w]
                      rfl
                    refine take_ (i := 19) (N := some 79) (v := ?_) (a' := ?_) #[true, true, true, true, true, true, true, true, true, true, true, true, true, true, true, true, true, true, true, true, false, true, false, false, false, false, false, false] rfl rfl (take_ofW HT_.out HW_.out (by kernel_rfl)) (fun _ _ _ h => h) (Or.inl ⟨by rfl, ?_⟩) hHeld ?_ ?_
                    rotate_left
                    · rintro w' ⟨s0, s1, s2, s3, s4, s5, s6, s7, s8, s9, s10, s11, s12, s13, s14, s15, s16, s17, s18, s19, s20, s21, s22, s23, s24, s25, s26, s27, s28, s29⟩
                      go_simp
                      with_reducible rfl
                    rotate_left
                    · simp only [Act.put, List.setIfInBounds_toArray, List.set_cons_zero, List.set_cons_succ, i64_w, i32_w]
                      rfl
                    refine one_ (i := 20) (N := some 80) #[true, true, true, true, true, true, true, true, true, true, true, true, true, true, true, true, true, true, true, true, true, true, false, false, false, false, false, false] rfl rfl (one_of HT_.out (by kernel_rfl)) (by decide) (fun K hK => ?_)
                    refine goes_ Tryd.func19 (by kernel_rfl) rfl #[.agg #[.int .i64 a0_0, .int .i64 a0_1, .int .i64 a0_2, .string a0_3, .string a0_4], .agg #[.int .i64 a0_0, .int .i64 a0_1, .int .i64 a0_2, .string (⟨#[]⟩ : ByteArray), .string a0_4]] (by rfl) rfl rfl (by (try simp only [List.map_toArray, List.map_cons, List.map_nil]); first | done | rfl | (simp only [List.length_drop, List.length_take]; rfl)) ?_
                    with_reducible refine (ver_Compare.calls kj28 a0_0 a0_1 a0_2 a0_3 a0_4 a0_0 a0_1 a0_2 (⟨#[]⟩ : ByteArray) a0_4 t562 _ A66.out).mono ?_
                    rintro e w72 ⟨rfl, hb⟩
                    refine ⟨_, rfl, ?_⟩
                    have n0_ := Aside0.mk (blk_below (g := gb539) (o := .cells #[.int .i64 a0_0, .int .i64 a0_1, .int .i64 a0_2, .string a0_3, .string a0_4] 23 (0, 0)) (by (with_reducible repeat (first | refine blk_drewN ?_ _ | refine blk_drew ?_ | refine blk_alloc ?_ _)); exact BK539.out) hb)
                    have n1_ := Aside0.mk (blk_below (g := gb540) (o := .cells #[.int .i64 a1_0, .int .i64 a1_1, .int .i64 a1_2, .string a1_3, .string a1_4] 23 (0, 0)) (by (with_reducible repeat (first | refine blk_drewN ?_ _ | refine blk_drew ?_ | refine blk_alloc ?_ _)); exact BK540.out) hb)
                    have n2_ := Aside0.mk (blk_below (g := gb544) (o := .cells #[.int .i64 a0_0, .int .i64 a0_1, .int .i64 a0_2, .string a0_3, .string (⟨#[]⟩ : ByteArray)] 23 (0, 0)) (by (with_reducible repeat (first | refine blk_drewN ?_ _ | refine blk_drew ?_ | refine blk_alloc ?_ _)); exact BK544.out) hb)
                    have n3_ := Aside0.mk (blk_below (g := gb545) (o := .cells #[.int .i64 a0_0, .int .i64 a0_1, .int .i64 a0_2, .string (⟨#[]⟩ : ByteArray), .string a0_4] 23 (0, 0)) (by (with_reducible repeat (first | refine blk_drewN ?_ _ | refine blk_drew ?_ | refine blk_alloc ?_ _)); exact BK545.out) hb)
                    have n4_ := Aside0.mk (blk_below (g := gb552) (o := .cells #[.int .i64 t546, .int .i64 t547, .int .i64 t548, .string t549, .string t550] 23 (0, 0)) (by (with_reducible repeat (first | refine blk_drewN ?_ _ | refine blk_drew ?_ | refine blk_alloc ?_ _)); exact BK552.out) hb)
                    have n5_ := Aside0.mk (blk_below (g := gb559) (o := .cells #[.int .i64 t553, .int .i64 t554, .int .i64 t555, .string t556, .string t557] 23 (0, 0)) (by (with_reducible repeat (first | refine blk_drewN ?_ _ | refine blk_drew ?_ | refine blk_alloc ?_ _)); exact BK559.out) hb)
                    have n6_ := Aside0.mk (below_step (by repeat (first | (with_reducible first | exact HB.out | apply below_alloc | apply pw_below_drewN | apply below_drew1 | refine below_set ?_ GE539.out | refine below_set ?_ GE540.out | refine below_set ?_ GE544.out | refine below_set ?_ GE545.out | refine below_set ?_ GE552.out | refine below_set ?_ GE559.out) | exact HB.out)) hb)
                    clear BK539
                    clear BK540
                    clear BK544
                    clear BK545
                    clear BK552
                    clear BK559
                    clear HB
                    have BK539 := n0_
                    have BK540 := n1_
                    have BK544 := n2_
                    have BK545 := n3_
                    have BK552 := n4_
                    have BK559 := n5_
                    have HB := n6_
                    clear n0_ n1_ n2_ n3_ n4_ n5_ n6_
                    (try clear hb)
                    (try clear hb2)
                    (try clear hk)
                    (try clear hi)
                    refine hK.out _ _ ⟨(blk_cell BK539.out 0).trans rfl, (blk_cell BK539.out 1).trans rfl, (blk_cell BK539.out 2).trans rfl, (blk_cell BK539.out 3).trans rfl, (blk_cell BK539.out 4).trans rfl, (blk_cell BK540.out 0).trans rfl, (blk_cell BK540.out 1).trans rfl, (blk_cell BK540.out 2).trans rfl, (blk_cell BK540.out 3).trans rfl, (blk_cell BK540.out 4).trans rfl, (blk_cell BK544.out 0).trans rfl, (blk_cell BK544.out 1).trans rfl, (blk_cell BK544.out 2).trans rfl, (blk_cell BK544.out 3).trans rfl, (blk_cell BK544.out 4).trans rfl, (blk_cell BK552.out 0).trans rfl, (blk_cell BK552.out 1).trans rfl, (blk_cell BK552.out 2).trans rfl, (blk_cell BK552.out 3).trans rfl, (blk_cell BK552.out 4).trans rfl, (blk_cell BK559.out 0).trans rfl, (blk_cell BK559.out 1).trans rfl, (blk_cell BK559.out 2).trans rfl, (blk_cell BK559.out 3).trans rfl, (blk_cell BK559.out 4).trans rfl, (blk_cell BK545.out 0).trans rfl, (blk_cell BK545.out 1).trans rfl, (blk_cell BK545.out 2).trans rfl, (blk_cell BK545.out 3).trans rfl, (blk_cell BK545.out 4).trans rfl⟩ (fun hHeld => ?_)
                    clear hK K
                    refine norm_ (a' := ?_) ?_ ?_
                    rotate_left
                    · show Act.put _ (some 80) _ = _
                      simp only [Act.put, List.setIfInBounds_toArray, List.set_cons_zero, List.set_cons_succ, i64_w, i32_w]
                      rfl
                    refine pure_ (i := 22) (N := some 82) (v := ?_) (a' := ?_) #[true, true, true, true, true, true, true, true, true, true, true, true, true, true, true, true, true, true, true, true, true, true, true, false, false, false, false, false] rfl rfl (any_of HT_.out (by kernel_rfl)) (fun _ _ _ h => h) (Or.inl ⟨by rfl, ?_⟩) ?_ ?_
                    rotate_left
                    · intro w'
                      go_simp
                      with_reducible rfl
                    rotate_left
                    · simp only [Act.put, List.setIfInBounds_toArray, List.set_cons_zero, List.set_cons_succ, i64_w, i32_w]
                      rfl
                    refine pure_ (i := 23) (N := some 83) (v := ?_) (a' := ?_) #[true, true, true, true, true, true, true, true, true, true, true, true, true, true, true, true, true, true, true, true, true, true, true, true, false, false, false, false] rfl rfl (any_of HT_.out (by kernel_rfl)) (fun _ _ _ h => h) (Or.inl ⟨by rfl, ?_⟩) ?_ ?_
                    rotate_left
                    · intro w'
                      go_simp
                      with_reducible rfl
                    rotate_left
                    · simp only [Act.put, List.setIfInBounds_toArray, List.set_cons_zero, List.set_cons_succ, i64_w, i32_w]
                      rfl
                    refine pure_ (i := 24) (N := some 84) (v := ?_) (a' := ?_) #[true, true, true, true, true, true, true, true, true, true, true, true, true, true, true, true, true, true, true, true, true, true, true, true, true, false, false, false] rfl rfl (any_of HT_.out (by kernel_rfl)) (fun _ _ _ h => h) (Or.inl ⟨by rfl, ?_⟩) ?_ ?_
                    rotate_left
                    · intro w'
                      go_simp
                      with_reducible rfl
                    rotate_left
                    · simp only [Act.put, List.setIfInBounds_toArray, List.set_cons_zero, List.set_cons_succ, i64_w, i32_w]
                      rfl
                    refine one_ (i := 25) (N := some 85) #[true, true, true, true, true, true, true, true, true, true, true, true, true, true, true, true, true, true, true, true, true, true, true, true, true, true, false, false] rfl rfl (one_of HT_.out (by kernel_rfl)) (by decide) (fun K hK => ?_)
                    refine goes_ Tryd.func10 (by kernel_rfl) rfl #[] (by rfl) rfl rfl (by (try simp only [List.map_toArray, List.map_cons, List.map_nil]); first | done | rfl | (simp only [List.length_drop, List.length_take]; rfl)) ?_
                    with_reducible refine (armadalaw07_live.calls kj28  true _ A68.out (LW0 := LW.out.below (by repeat (first | (with_reducible first | exact HB.out | apply below_alloc | apply pw_below_drewN | apply below_drew1 | refine below_set ?_ GE539.out | refine below_set ?_ GE540.out | refine below_set ?_ GE544.out | refine below_set ?_ GE545.out | refine below_set ?_ GE552.out | refine below_set ?_ GE559.out) | exact HB.out)))).mono ?_
                    rintro e w73 ⟨rfl, hb⟩
                    refine ⟨_, rfl, ?_⟩
                    have n0_ := Aside0.mk (blk_below (g := gb539) (o := .cells #[.int .i64 a0_0, .int .i64 a0_1, .int .i64 a0_2, .string a0_3, .string a0_4] 23 (0, 0)) (by (with_reducible repeat (first | refine blk_drewN ?_ _ | refine blk_drew ?_ | refine blk_alloc ?_ _)); exact BK539.out) hb)
                    have n1_ := Aside0.mk (blk_below (g := gb540) (o := .cells #[.int .i64 a1_0, .int .i64 a1_1, .int .i64 a1_2, .string a1_3, .string a1_4] 23 (0, 0)) (by (with_reducible repeat (first | refine blk_drewN ?_ _ | refine blk_drew ?_ | refine blk_alloc ?_ _)); exact BK540.out) hb)
                    have n2_ := Aside0.mk (blk_below (g := gb544) (o := .cells #[.int .i64 a0_0, .int .i64 a0_1, .int .i64 a0_2, .string a0_3, .string (⟨#[]⟩ : ByteArray)] 23 (0, 0)) (by (with_reducible repeat (first | refine blk_drewN ?_ _ | refine blk_drew ?_ | refine blk_alloc ?_ _)); exact BK544.out) hb)
                    have n3_ := Aside0.mk (blk_below (g := gb545) (o := .cells #[.int .i64 a0_0, .int .i64 a0_1, .int .i64 a0_2, .string (⟨#[]⟩ : ByteArray), .string a0_4] 23 (0, 0)) (by (with_reducible repeat (first | refine blk_drewN ?_ _ | refine blk_drew ?_ | refine blk_alloc ?_ _)); exact BK545.out) hb)
                    have n4_ := Aside0.mk (blk_below (g := gb552) (o := .cells #[.int .i64 t546, .int .i64 t547, .int .i64 t548, .string t549, .string t550] 23 (0, 0)) (by (with_reducible repeat (first | refine blk_drewN ?_ _ | refine blk_drew ?_ | refine blk_alloc ?_ _)); exact BK552.out) hb)
                    have n5_ := Aside0.mk (blk_below (g := gb559) (o := .cells #[.int .i64 t553, .int .i64 t554, .int .i64 t555, .string t556, .string t557] 23 (0, 0)) (by (with_reducible repeat (first | refine blk_drewN ?_ _ | refine blk_drew ?_ | refine blk_alloc ?_ _)); exact BK559.out) hb)
                    have n6_ := Aside0.mk (below_step (by repeat (first | (with_reducible first | exact HB.out | apply below_alloc | apply pw_below_drewN | apply below_drew1 | refine below_set ?_ GE539.out | refine below_set ?_ GE540.out | refine below_set ?_ GE544.out | refine below_set ?_ GE545.out | refine below_set ?_ GE552.out | refine below_set ?_ GE559.out) | exact HB.out)) hb)
                    clear BK539
                    clear BK540
                    clear BK544
                    clear BK545
                    clear BK552
                    clear BK559
                    clear HB
                    have BK539 := n0_
                    have BK540 := n1_
                    have BK544 := n2_
                    have BK545 := n3_
                    have BK552 := n4_
                    have BK559 := n5_
                    have HB := n6_
                    clear n0_ n1_ n2_ n3_ n4_ n5_ n6_
                    (try clear hb)
                    (try clear hb2)
                    (try clear hk)
                    (try clear hi)
                    refine hK.out _ _ ⟨(blk_cell BK539.out 0).trans rfl, (blk_cell BK539.out 1).trans rfl, (blk_cell BK539.out 2).trans rfl, (blk_cell BK539.out 3).trans rfl, (blk_cell BK539.out 4).trans rfl, (blk_cell BK540.out 0).trans rfl, (blk_cell BK540.out 1).trans rfl, (blk_cell BK540.out 2).trans rfl, (blk_cell BK540.out 3).trans rfl, (blk_cell BK540.out 4).trans rfl, (blk_cell BK544.out 0).trans rfl, (blk_cell BK544.out 1).trans rfl, (blk_cell BK544.out 2).trans rfl, (blk_cell BK544.out 3).trans rfl, (blk_cell BK544.out 4).trans rfl, (blk_cell BK552.out 0).trans rfl, (blk_cell BK552.out 1).trans rfl, (blk_cell BK552.out 2).trans rfl, (blk_cell BK552.out 3).trans rfl, (blk_cell BK552.out 4).trans rfl, (blk_cell BK559.out 0).trans rfl, (blk_cell BK559.out 1).trans rfl, (blk_cell BK559.out 2).trans rfl, (blk_cell BK559.out 3).trans rfl, (blk_cell BK559.out 4).trans rfl, (blk_cell BK545.out 0).trans rfl, (blk_cell BK545.out 1).trans rfl, (blk_cell BK545.out 2).trans rfl, (blk_cell BK545.out 3).trans rfl, (blk_cell BK545.out 4).trans rfl⟩ (fun hHeld => ?_)
                    clear hK K
                    refine norm_ (a' := ?_) ?_ ?_
                    rotate_left
                    · show Act.put _ (some 85) _ = _
                      simp only [Act.put, List.setIfInBounds_toArray, List.set_cons_zero, List.set_cons_succ, i64_w, i32_w]
                      rfl
                    refine pure_ (i := 26) (N := some 86) (v := ?_) (a' := ?_) #[true, true, true, true, true, true, true, true, true, true, true, true, true, true, true, true, true, true, true, true, true, true, true, true, true, true, true, false] rfl rfl (any_of HT_.out (by kernel_rfl)) (fun _ _ _ h => h) (Or.inl ⟨by rfl, ?_⟩) ?_ ?_
                    rotate_left
                    · intro w'
                      go_simp
                      with_reducible rfl
                    rotate_left
                    · simp only [Act.put, List.setIfInBounds_toArray, List.set_cons_zero, List.set_cons_succ, i64_w, i32_w]
                      rfl
                    refine pure_ (i := 27) (N := some 6) (v := ?_) (a' := ?_) #[true, true, true, true, true, true, true, true, true, true, true, true, true, true, true, true, true, true, true, true, true, true, true, true, true, true, true, true] rfl rfl (any_of HT_.out (by kernel_rfl)) (fun _ _ _ h => h) (Or.inl ⟨by rfl, ?_⟩) ?_ ?_
                    rotate_left
                    · intro w'
                      go_simp
                      with_reducible rfl
                    rotate_left
                    · simp only [Act.put, List.setIfInBounds_toArray, List.set_cons_zero, List.set_cons_succ, i64_w, i32_w]
                      rfl
                    refine done_ (done_of HT_.out (by kernel_rfl)) ?_
                    try go_wp2
                    go_ret
                    exact ⟨by first | rfl | (simp [errW_none, errW_some] <;> rfl) | (simp [*, errW_none, errW_some] <;> rfl), by repeat (first | (with_reducible first | exact HB.out | apply below_alloc | apply pw_below_drewN | apply below_drew1 | refine below_set ?_ GE539.out | refine below_set ?_ GE540.out | refine below_set ?_ GE544.out | refine below_set ?_ GE545.out | refine below_set ?_ GE552.out | refine below_set ?_ GE559.out) | exact HB.out)⟩
                  · rw [if_neg c67] at H
                    have c67b0 : (t562 == x13_28) = false := beq_eq_false_iff_ne.mpr c67
                    have c67b1 : (t562 != x13_28) = true := bne_iff_ne.mpr c67
                    exact absurd H (by simp)
                · rw [if_neg c65] at H
                  have c65b0 : (t551 == t558) = false := beq_eq_false_iff_ne.mpr c65
                  have c65b1 : (t551 != t558) = true := bne_iff_ne.mpr c65
                  exact absurd H (by simp)
              · rw [if_neg c64] at H
                have c64b0 : (t546 == t553 && (t547 == t554 && (t548 == t555 && (t549.toList == t556.toList && (t550.toList == t557.toList))))) = false := by simpa using c64
                (try (have c64b1 : decide (t546 = t553 && (t547 == t554 && (t548 == t555 && (t549.toList == t556.toList && (t550.toList == t557.toList))))) = false := by simpa using c64))
                (try (have c64b2 : (t546 == t553 && (t547 == t554 && (t548 == t555 && (t549.toList == t556.toList && (t550.toList == t557.toList))))) = false := by simpa using c64))
                (try (have c64b3 : ¬ (t546 = t553 && (t547 == t554 && (t548 == t555 && (t549.toList == t556.toList && (t550.toList == t557.toList))))) := by simpa using c64))
                clear c64
                exact absurd H (by simp)
            · rw [if_neg c63] at H
              have c63b0 : (t560 == t561) = false := beq_eq_false_iff_ne.mpr c63
              have c63b1 : (t560 != t561) = true := bne_iff_ne.mpr c63
              exact absurd H (by simp)
end
end Go.Proofs.YthoiepkejhhcoaaDoor.P
