/- Printed functions, merged. -/
import Derived.Test.YthoiepkejhhcoaaDoorZVDM0
import Derived.Test.YthoiepkejhhcoaaDoorZVDVLaid
import Derived.Test.YthoiepkejhhcoaaDoorZVDM3
import Derived.Test.YthoiepkejhhcoaaDoorZVDM4
import Derived.Test.YthoiepkejhhcoaaDoorZVDVCheck
namespace Go.Proofs.YthoiepkejhhcoaaDoor.P
open Go.RowKit Go.Proofs.YthoiepkejhhcoaaDoorW.PrintWords Go.Proofs.YthoiepkejhhcoaaDoorW.PrintLast Go.Proofs.YthoiepkejhhcoaaDoorW.PrintMore
attribute [local go_sem] max2_int min2_int max_two min_two max_three min_three max_four min_four   -- for this text's walks alone
set_option linter.unusedVariables false
set_option linter.unusedSimpArgs false
mutual
def armadalaw07_VerLine.j0 : Nat → Int → Bool → Int → Int → Int → ByteArray → ByteArray → Int → Int → Int → ByteArray → ByteArray → Int → Int → Int → ByteArray → ByteArray → Option (Bool)
  | 0, _, _, _, _, _, _, _, _, _, _, _, _, _, _, _, _, _ => none
  | k + 1, x7, x50, x426000, x426001, x426002, x426003, x426004, x427000, x427001, x427002, x427003, x427004, x428000, x428001, x428002, x428003, x428004 => if x50 = true then (some false) else ((ver_Check.f x426000 x426001 x426002 x426003 x426004).bind fun t431 => (if t431 = true then ((ver_Check.f x427000 x427001 x427002 x427003 x427004).bind fun t432 => (if t432 = true then ((ver_Check.f x428000 x428001 x428002 x428003 x428004).bind fun t433 => (armadalaw07_VerLine.j1 k x7 (!t433) x426000 x426001 x426002 x426003 x426004 x427000 x427001 x427002 x427003 x427004 x428000 x428001 x428002 x428003 x428004)) else (armadalaw07_VerLine.j1 k x7 true x426000 x426001 x426002 x426003 x426004 x427000 x427001 x427002 x427003 x427004 x428000 x428001 x428002 x428003 x428004))) else (armadalaw07_VerLine.j1 k x7 true x426000 x426001 x426002 x426003 x426004 x427000 x427001 x427002 x427003 x427004 x428000 x428001 x428002 x428003 x428004)))
def armadalaw07_VerLine.j1 : Nat → Int → Bool → Int → Int → Int → ByteArray → ByteArray → Int → Int → Int → ByteArray → ByteArray → Int → Int → Int → ByteArray → ByteArray → Option (Bool)
  | 0, _, _, _, _, _, _, _, _, _, _, _, _, _, _, _, _, _ => none
  | k + 1, x7, x63, x426000, x426001, x426002, x426003, x426004, x427000, x427001, x427002, x427003, x427004, x428000, x428001, x428002, x428003, x428004 => if x63 = true then ((armadalaw07_live.f k).bind fun t434 => (some t434)) else (if x7 ≤ 0 then ((ver_Compare.f k x427000 x427001 x427002 x427003 x427004 x428000 x428001 x428002 x428003 x428004).bind fun t435 => (if t435 ≤ 0 then ((ver_Compare.f k x426000 x426001 x426002 x426003 x426004 x428000 x428001 x428002 x428003 x428004).bind fun t436 => (if t436 > 0 then (some false) else (if x426000 = x427000 then (if x426001 = x427001 then (if x426002 = x427002 then (if ((x7 == 0) == (x426003.toList == x427003.toList)) = true then ((armadalaw07_live.f k).bind fun t437 => (some t437)) else (some false)) else (if ((x7 == 0) == false) = true then ((armadalaw07_live.f k).bind fun t438 => (some t438)) else (some false))) else (if ((x7 == 0) == false) = true then ((armadalaw07_live.f k).bind fun t439 => (some t439)) else (some false))) else (if ((x7 == 0) == false) = true then ((armadalaw07_live.f k).bind fun t440 => (some t440)) else (some false))))) else (if x426000 = x427000 then (if x426001 = x427001 then (if x426002 = x427002 then (if ((x7 == 0) == (x426003.toList == x427003.toList)) = true then ((armadalaw07_live.f k).bind fun t441 => (some t441)) else (some false)) else (if ((x7 == 0) == false) = true then ((armadalaw07_live.f k).bind fun t442 => (some t442)) else (some false))) else (if ((x7 == 0) == false) = true then ((armadalaw07_live.f k).bind fun t443 => (some t443)) else (some false))) else (if ((x7 == 0) == false) = true then ((armadalaw07_live.f k).bind fun t444 => (some t444)) else (some false))))) else (if x426000 = x427000 then (if x426001 = x427001 then (if x426002 = x427002 then (if ((x7 == 0) == (x426003.toList == x427003.toList)) = true then ((armadalaw07_live.f k).bind fun t445 => (some t445)) else (some false)) else (if ((x7 == 0) == false) = true then ((armadalaw07_live.f k).bind fun t446 => (some t446)) else (some false))) else (if ((x7 == 0) == false) = true then ((armadalaw07_live.f k).bind fun t447 => (some t447)) else (some false))) else (if ((x7 == 0) == false) = true then ((armadalaw07_live.f k).bind fun t448 => (some t448)) else (some false))))
end
def armadalaw07_VerLine.f (k : Nat) (a0_0 : Int) (a0_1 : Int) (a0_2 : Int) (a0_3 : ByteArray) (a0_4 : ByteArray) (a1_0 : Int) (a1_1 : Int) (a1_2 : Int) (a1_3 : ByteArray) (a1_4 : ByteArray) (a2_0 : Int) (a2_1 : Int) (a2_2 : Int) (a2_3 : ByteArray) (a2_4 : ByteArray) : Option (Bool) := if (wrap64 ((wrap64 ((wrap64 ((wrap64 ((wrap64 ((a0_3.size : Int) + (a1_3.size : Int))) + (a2_3.size : Int))) + (a0_4.size : Int))) + (a1_4.size : Int))) + (a2_4.size : Int))) > 600 then ((armadalaw07_live.f k).bind fun t428 => (some t428)) else ((ver_Compare.f k a0_0 a0_1 a0_2 a0_3 a0_4 a1_0 a1_1 a1_2 a1_3 a1_4).bind fun t429 => ((ver_Compare.f k a1_0 a1_1 a1_2 a1_3 a1_4 a0_0 a0_1 a0_2 a0_3 a0_4).bind fun t430 => (if t429 = (wrap64 (-t430)) then (if t429 < (-1) then (armadalaw07_VerLine.j0 k t429 true a0_0 a0_1 a0_2 a0_3 a0_4 a1_0 a1_1 a1_2 a1_3 a1_4 a2_0 a2_1 a2_2 a2_3 a2_4) else (armadalaw07_VerLine.j0 k t429 (decide (t429 > 1)) a0_0 a0_1 a0_2 a0_3 a0_4 a1_0 a1_1 a1_2 a1_3 a1_4 a2_0 a2_1 a2_2 a2_3 a2_4)) else (armadalaw07_VerLine.j0 k t429 true a0_0 a0_1 a0_2 a0_3 a0_4 a1_0 a1_1 a1_2 a1_3 a1_4 a2_0 a2_1 a2_2 a2_3 a2_4))))
theorem armadalaw07_VerLine.mono_l : ∀ k, (∀ y0 y1 y2 y3 y4 y5 y6 y7 y8 y9 y10 y11 y12 y13 y14 y15 y16, LeO (armadalaw07_VerLine.j0 k y0 y1 y2 y3 y4 y5 y6 y7 y8 y9 y10 y11 y12 y13 y14 y15 y16) (armadalaw07_VerLine.j0 (k + 1) y0 y1 y2 y3 y4 y5 y6 y7 y8 y9 y10 y11 y12 y13 y14 y15 y16)) ∧ (∀ y0 y1 y2 y3 y4 y5 y6 y7 y8 y9 y10 y11 y12 y13 y14 y15 y16, LeO (armadalaw07_VerLine.j1 k y0 y1 y2 y3 y4 y5 y6 y7 y8 y9 y10 y11 y12 y13 y14 y15 y16) (armadalaw07_VerLine.j1 (k + 1) y0 y1 y2 y3 y4 y5 y6 y7 y8 y9 y10 y11 y12 y13 y14 y15 y16))
  | 0 => ⟨fun _ _ _ _ _ _ _ _ _ _ _ _ _ _ _ _ _ r h => by simp [armadalaw07_VerLine.j0] at h, fun _ _ _ _ _ _ _ _ _ _ _ _ _ _ _ _ _ r h => by simp [armadalaw07_VerLine.j1] at h⟩
  | k + 1 => by
    obtain ⟨ih0, ih1⟩ := armadalaw07_VerLine.mono_l k
    refine ⟨?_, ?_⟩
    · intro y0 y1 y2 y3 y4 y5 y6 y7 y8 y9 y10 y11 y12 y13 y14 y15 y16
      unfold armadalaw07_VerLine.j0
      repeat' first
      | (with_reducible exact ih0 _ _ _ _ _ _ _ _ _ _ _ _ _ _ _ _ _)
      | (with_reducible exact ih1 _ _ _ _ _ _ _ _ _ _ _ _ _ _ _ _ _)
      | (with_reducible exact armadalaw07_live.mono _)
      | (with_reducible exact ver_Compare.mono _ _ _ _ _ _ _ _ _ _ _)
      | (with_reducible exact LeO.refl _)
      | (with_reducible exact LeO.none _)
      | (with_reducible refine LeO.ite ?_ ?_)
      | (with_reducible refine LeO.bind ?_ (fun _ => ?_))
      | exact ih0 _ _ _ _ _ _ _ _ _ _ _ _ _ _ _ _ _
      | exact ih1 _ _ _ _ _ _ _ _ _ _ _ _ _ _ _ _ _
      | exact armadalaw07_live.mono _
      | exact ver_Compare.mono _ _ _ _ _ _ _ _ _ _ _
      | exact LeO.none _
      | refine LeO.ite ?_ ?_
      | refine LeO.bind ?_ (fun _ => ?_)
    · intro y0 y1 y2 y3 y4 y5 y6 y7 y8 y9 y10 y11 y12 y13 y14 y15 y16
      unfold armadalaw07_VerLine.j1
      repeat' first
      | (with_reducible exact ih0 _ _ _ _ _ _ _ _ _ _ _ _ _ _ _ _ _)
      | (with_reducible exact ih1 _ _ _ _ _ _ _ _ _ _ _ _ _ _ _ _ _)
      | (with_reducible exact armadalaw07_live.mono _)
      | (with_reducible exact ver_Compare.mono _ _ _ _ _ _ _ _ _ _ _)
      | (with_reducible exact LeO.refl _)
      | (with_reducible exact LeO.none _)
      | (with_reducible refine LeO.ite ?_ ?_)
      | (with_reducible refine LeO.bind ?_ (fun _ => ?_))
      | exact ih0 _ _ _ _ _ _ _ _ _ _ _ _ _ _ _ _ _
      | exact ih1 _ _ _ _ _ _ _ _ _ _ _ _ _ _ _ _ _
      | exact armadalaw07_live.mono _
      | exact ver_Compare.mono _ _ _ _ _ _ _ _ _ _ _
      | exact LeO.none _
      | refine LeO.ite ?_ ?_
      | refine LeO.bind ?_ (fun _ => ?_)
theorem armadalaw07_VerLine.mono : ∀ a0 a1 a2 a3 a4 a5 a6 a7 a8 a9 a10 a11 a12 a13 a14 k, LeO (armadalaw07_VerLine.f k a0 a1 a2 a3 a4 a5 a6 a7 a8 a9 a10 a11 a12 a13 a14) (armadalaw07_VerLine.f (k + 1) a0 a1 a2 a3 a4 a5 a6 a7 a8 a9 a10 a11 a12 a13 a14) := by
  intro a0 a1 a2 a3 a4 a5 a6 a7 a8 a9 a10 a11 a12 a13 a14 k
  obtain ⟨ih0, ih1⟩ := armadalaw07_VerLine.mono_l k
  unfold armadalaw07_VerLine.f
  repeat' first
      | (with_reducible exact ih0 _ _ _ _ _ _ _ _ _ _ _ _ _ _ _ _ _)
      | (with_reducible exact ih1 _ _ _ _ _ _ _ _ _ _ _ _ _ _ _ _ _)
      | (with_reducible exact armadalaw07_live.mono _)
      | (with_reducible exact ver_Compare.mono _ _ _ _ _ _ _ _ _ _ _)
      | (with_reducible exact LeO.refl _)
      | (with_reducible exact LeO.none _)
      | (with_reducible refine LeO.ite ?_ ?_)
      | (with_reducible refine LeO.bind ?_ (fun _ => ?_))
      | exact ih0 _ _ _ _ _ _ _ _ _ _ _ _ _ _ _ _ _
      | exact ih1 _ _ _ _ _ _ _ _ _ _ _ _ _ _ _ _ _
      | exact armadalaw07_live.mono _
      | exact ver_Compare.mono _ _ _ _ _ _ _ _ _ _ _
      | exact LeO.none _
      | refine LeO.ite ?_ ?_
      | refine LeO.bind ?_ (fun _ => ?_)
set_option maxHeartbeats 8000000 in
set_option maxRecDepth 100000 in
theorem armadalaw07_VerLine.calls (k : Nat) (a0_0 : Int) (a0_1 : Int) (a0_2 : Int) (a0_3 : ByteArray) (a0_4 : ByteArray) (a1_0 : Int) (a1_1 : Int) (a1_2 : Int) (a1_3 : ByteArray) (a1_4 : ByteArray) (a2_0 : Int) (a2_1 : Int) (a2_2 : Int) (a2_3 : ByteArray) (a2_4 : ByteArray) (r : Bool) (w : World) (h : armadalaw07_VerLine.f k a0_0 a0_1 a0_2 a0_3 a0_4 a1_0 a1_1 a1_2 a1_3 a1_4 a2_0 a2_1 a2_2 a2_3 a2_4 = some r) (hT_ : r = true := by rfl) (LW0 : LaidW w) :
    Calls Tryd.prog 6 #[.agg #[.int .i64 a0_0, .int .i64 a0_1, .int .i64 a0_2, .string a0_3, .string a0_4], .agg #[.int .i64 a1_0, .int .i64 a1_1, .int .i64 a1_2, .string a1_3, .string a1_4], .agg #[.int .i64 a2_0, .int .i64 a2_1, .int .i64 a2_2, .string a2_3, .string a2_4]] w fun e w' => e = .returned (.bool r) ∧ Below w.heap.size w w' := by
  subst hT_
  have LW := Aside0.mk LW0
  clear LW0
  have hu23 := Tryd.underlying23
  have HB := Aside0.mk (Below.refl w.heap.size w)
  have H : (if (wrap64 ((wrap64 ((wrap64 ((wrap64 ((wrap64 ((a0_3.size : Int) + (a1_3.size : Int))) + (a2_3.size : Int))) + (a0_4.size : Int))) + (a1_4.size : Int))) + (a2_4.size : Int))) > 600 then ((armadalaw07_live.f k).bind fun t428 => (some t428)) else ((ver_Compare.f k a0_0 a0_1 a0_2 a0_3 a0_4 a1_0 a1_1 a1_2 a1_3 a1_4).bind fun t429 => ((ver_Compare.f k a1_0 a1_1 a1_2 a1_3 a1_4 a0_0 a0_1 a0_2 a0_3 a0_4).bind fun t430 => (if t429 = (wrap64 (-t430)) then (if t429 < (-1) then (armadalaw07_VerLine.j0 k t429 true a0_0 a0_1 a0_2 a0_3 a0_4 a1_0 a1_1 a1_2 a1_3 a1_4 a2_0 a2_1 a2_2 a2_3 a2_4) else (armadalaw07_VerLine.j0 k t429 (decide (t429 > 1)) a0_0 a0_1 a0_2 a0_3 a0_4 a1_0 a1_1 a1_2 a1_3 a1_4 a2_0 a2_1 a2_2 a2_3 a2_4)) else (armadalaw07_VerLine.j0 k t429 true a0_0 a0_1 a0_2 a0_3 a0_4 a1_0 a1_1 a1_2 a1_3 a1_4 a2_0 a2_1 a2_2 a2_3 a2_4))))) = some true := h
  clear h
  by_cases c4 : (wrap64 ((wrap64 ((wrap64 ((wrap64 ((wrap64 ((a0_3.size : Int) + (a1_3.size : Int))) + (a2_3.size : Int))) + (a0_4.size : Int))) + (a1_4.size : Int))) + (a2_4.size : Int))) > 600
  · rw [if_pos c4] at H
    have c4b0 : decide (600 < (wrap64 ((wrap64 ((wrap64 ((wrap64 ((wrap64 ((a0_3.size : Int) + (a1_3.size : Int))) + (a2_3.size : Int))) + (a0_4.size : Int))) + (a1_4.size : Int))) + (a2_4.size : Int)))) = true := decide_eq_true c4
    clear c4
    replace H := Option.bind_eq_some_iff.mp H
    obtain ⟨t428, A50, H⟩ := H
    replace H : (some t428) = some true := H
    have A5 := Aside0.mk A50
    clear A50
    obtain rfl := Option.some.inj H
    go_enter Tryd.func6, Tryd.ntmps6
    go_wp2_with (first | ((with_reducible refine gate_dst (N := 3) rfl ?_); refine box_event ?hg (N := 3) ?hd (cs := #[.int .i64 a0_0, .int .i64 a0_1, .int .i64 a0_2, .string a0_3, .string a0_4]) (t := 23) ?hr ?_; (case hd => rfl); (case hg => rfl); (case hr => first | (go_simp; done) | (go_simp; rfl)); intro gb425 hg w6 hbox hb; have n0_ := Aside0.mk (below_step (by repeat (first | (with_reducible first | exact HB.out | apply below_alloc | apply pw_below_drewN | apply below_drew1) | exact HB.out)) hb); have n1_ := Aside0.mk (hbox); have n2_ := Aside0.mk ((by rw [hg]; exact (below_size (by repeat (first | (with_reducible first | exact HB.out | apply below_alloc | apply pw_below_drewN | apply below_drew1) | exact HB.out))) : w.heap.size ≤ gb425)); have n3_ := Aside0.mk ((by rw [hg]; exact (below_size (by repeat (first | (with_reducible first | exact HB.out | apply below_alloc | apply pw_below_drewN | apply below_drew1) | exact HB.out))) : w.heap.size ≤ gb425)); clear HB; have HB := n0_; have BK425 := n1_; have GW425 := n2_; have GE425 := n3_; clear n0_ n1_ n2_ n3_; clear hb hbox hg) | ((with_reducible refine gate_dst (N := 4) rfl ?_); refine box_event ?hg (N := 4) ?hd (cs := #[.int .i64 a1_0, .int .i64 a1_1, .int .i64 a1_2, .string a1_3, .string a1_4]) (t := 23) ?hr ?_; (case hd => rfl); (case hg => rfl); (case hr => first | (go_simp; done) | (go_simp; rfl)); intro gb426 hg w7 hbox hb; have n0_ := Aside0.mk (blk_below (g := gb425) (o := .cells #[.int .i64 a0_0, .int .i64 a0_1, .int .i64 a0_2, .string a0_3, .string a0_4] 23 (0, 0)) (by (with_reducible repeat (first | refine blk_drewN ?_ _ | refine blk_drew ?_ | refine blk_alloc ?_ _)); exact BK425.out) hb); have n1_ := Aside0.mk (below_step (by repeat (first | (with_reducible first | exact HB.out | apply below_alloc | apply pw_below_drewN | apply below_drew1 | refine below_set ?_ GE425.out) | exact HB.out)) hb); have n2_ := Aside0.mk (hbox); have n3_ := Aside0.mk ((by rw [hg]; exact (below_size (by repeat (first | (with_reducible first | exact HB.out | apply below_alloc | apply pw_below_drewN | apply below_drew1 | refine below_set ?_ GE425.out) | exact HB.out))) : w.heap.size ≤ gb426)); have n4_ := Aside0.mk ((by rw [hg]; exact (below_size (by repeat (first | (with_reducible first | exact HB.out | apply below_alloc | apply pw_below_drewN | apply below_drew1 | refine below_set ?_ GE425.out) | exact HB.out))) : w.heap.size ≤ gb426)); have n5_ := Aside0.mk ((by rw [hg]; exact Nat.ne_of_lt (blk_lt (g := gb425) (o := .cells #[.int .i64 a0_0, .int .i64 a0_1, .int .i64 a0_2, .string a0_3, .string a0_4] 23 (0, 0)) (by (with_reducible repeat (first | refine blk_drewN ?_ _ | refine blk_drew ?_ | refine blk_alloc ?_ _)); exact BK425.out)) : gb425 ≠ gb426)); have n6_ := Aside0.mk ((by rw [hg]; exact Nat.ne_of_gt (blk_lt (g := gb425) (o := .cells #[.int .i64 a0_0, .int .i64 a0_1, .int .i64 a0_2, .string a0_3, .string a0_4] 23 (0, 0)) (by (with_reducible repeat (first | refine blk_drewN ?_ _ | refine blk_drew ?_ | refine blk_alloc ?_ _)); exact BK425.out)) : gb426 ≠ gb425)); clear BK425; clear HB; have BK425 := n0_; have HB := n1_; have BK426 := n2_; have GW426 := n3_; have GE426 := n4_; have NB425_426 := n5_; have NB426_425 := n6_; clear n0_ n1_ n2_ n3_ n4_ n5_ n6_; clear hb hbox hg) | ((with_reducible refine gate_dst (N := 5) rfl ?_); refine box_event ?hg (N := 5) ?hd (cs := #[.int .i64 a2_0, .int .i64 a2_1, .int .i64 a2_2, .string a2_3, .string a2_4]) (t := 23) ?hr ?_; (case hd => rfl); (case hg => rfl); (case hr => first | (go_simp; done) | (go_simp; rfl)); intro gb427 hg w8 hbox hb; have n0_ := Aside0.mk (blk_below (g := gb425) (o := .cells #[.int .i64 a0_0, .int .i64 a0_1, .int .i64 a0_2, .string a0_3, .string a0_4] 23 (0, 0)) (by (with_reducible repeat (first | refine blk_drewN ?_ _ | refine blk_drew ?_ | refine blk_alloc ?_ _)); exact BK425.out) hb); have n1_ := Aside0.mk (blk_below (g := gb426) (o := .cells #[.int .i64 a1_0, .int .i64 a1_1, .int .i64 a1_2, .string a1_3, .string a1_4] 23 (0, 0)) (by (with_reducible repeat (first | refine blk_drewN ?_ _ | refine blk_drew ?_ | refine blk_alloc ?_ _)); exact BK426.out) hb); have n2_ := Aside0.mk (below_step (by repeat (first | (with_reducible first | exact HB.out | apply below_alloc | apply pw_below_drewN | apply below_drew1 | refine below_set ?_ GE425.out | refine below_set ?_ GE426.out) | exact HB.out)) hb); have n3_ := Aside0.mk (hbox); have n4_ := Aside0.mk ((by rw [hg]; exact (below_size (by repeat (first | (with_reducible first | exact HB.out | apply below_alloc | apply pw_below_drewN | apply below_drew1 | refine below_set ?_ GE425.out | refine below_set ?_ GE426.out) | exact HB.out))) : w.heap.size ≤ gb427)); have n5_ := Aside0.mk ((by rw [hg]; exact (below_size (by repeat (first | (with_reducible first | exact HB.out | apply below_alloc | apply pw_below_drewN | apply below_drew1 | refine below_set ?_ GE425.out | refine below_set ?_ GE426.out) | exact HB.out))) : w.heap.size ≤ gb427)); have n6_ := Aside0.mk ((by rw [hg]; exact Nat.ne_of_lt (blk_lt (g := gb425) (o := .cells #[.int .i64 a0_0, .int .i64 a0_1, .int .i64 a0_2, .string a0_3, .string a0_4] 23 (0, 0)) (by (with_reducible repeat (first | refine blk_drewN ?_ _ | refine blk_drew ?_ | refine blk_alloc ?_ _)); exact BK425.out)) : gb425 ≠ gb427)); have n7_ := Aside0.mk ((by rw [hg]; exact Nat.ne_of_gt (blk_lt (g := gb425) (o := .cells #[.int .i64 a0_0, .int .i64 a0_1, .int .i64 a0_2, .string a0_3, .string a0_4] 23 (0, 0)) (by (with_reducible repeat (first | refine blk_drewN ?_ _ | refine blk_drew ?_ | refine blk_alloc ?_ _)); exact BK425.out)) : gb427 ≠ gb425)); have n8_ := Aside0.mk ((by rw [hg]; exact Nat.ne_of_lt (blk_lt (g := gb426) (o := .cells #[.int .i64 a1_0, .int .i64 a1_1, .int .i64 a1_2, .string a1_3, .string a1_4] 23 (0, 0)) (by (with_reducible repeat (first | refine blk_drewN ?_ _ | refine blk_drew ?_ | refine blk_alloc ?_ _)); exact BK426.out)) : gb426 ≠ gb427)); have n9_ := Aside0.mk ((by rw [hg]; exact Nat.ne_of_gt (blk_lt (g := gb426) (o := .cells #[.int .i64 a1_0, .int .i64 a1_1, .int .i64 a1_2, .string a1_3, .string a1_4] 23 (0, 0)) (by (with_reducible repeat (first | refine blk_drewN ?_ _ | refine blk_drew ?_ | refine blk_alloc ?_ _)); exact BK426.out)) : gb427 ≠ gb426)); clear BK425; clear BK426; clear HB; have BK425 := n0_; have BK426 := n1_; have HB := n2_; have BK427 := n3_; have GW427 := n4_; have GE427 := n5_; have NB425_427 := n6_; have NB427_425 := n7_; have NB426_427 := n8_; have NB427_426 := n9_; clear n0_ n1_ n2_ n3_ n4_ n5_ n6_ n7_ n8_ n9_; clear hb hbox hg; have hnb9 := NB425_426.out; have hnc9 := NB426_425.out; have hnb10 := NB425_427.out; have hnc10 := NB427_425.out; have hcz11_0 : w8.cell? ⟨gb425, 0, none⟩ = some (.int .i64 a0_0) := (blk_cell BK425.out 0).trans rfl; have hcz11_1 : w8.cell? ⟨gb425, 1, none⟩ = some (.int .i64 a0_1) := (blk_cell BK425.out 1).trans rfl; have hcz11_2 : w8.cell? ⟨gb425, 2, none⟩ = some (.int .i64 a0_2) := (blk_cell BK425.out 2).trans rfl; have hcz11_3 : w8.cell? ⟨gb425, 3, none⟩ = some (.string a0_3) := (blk_cell BK425.out 3).trans rfl; have hcz11_4 : w8.cell? ⟨gb425, 4, none⟩ = some (.string a0_4) := (blk_cell BK425.out 4).trans rfl; have hfz11_0 := blk_frozen BK425.out 0; have hfz11_1 := blk_frozen BK425.out 1; have hfz11_2 := blk_frozen BK425.out 2; have hfz11_3 := blk_frozen BK425.out 3; have hfz11_4 := blk_frozen BK425.out 4; have hnb12 := NB426_427.out; have hnc12 := NB427_426.out; have hcz13_0 : w8.cell? ⟨gb426, 0, none⟩ = some (.int .i64 a1_0) := (blk_cell BK426.out 0).trans rfl; have hcz13_1 : w8.cell? ⟨gb426, 1, none⟩ = some (.int .i64 a1_1) := (blk_cell BK426.out 1).trans rfl; have hcz13_2 : w8.cell? ⟨gb426, 2, none⟩ = some (.int .i64 a1_2) := (blk_cell BK426.out 2).trans rfl; have hcz13_3 : w8.cell? ⟨gb426, 3, none⟩ = some (.string a1_3) := (blk_cell BK426.out 3).trans rfl; have hcz13_4 : w8.cell? ⟨gb426, 4, none⟩ = some (.string a1_4) := (blk_cell BK426.out 4).trans rfl; have hfz13_0 := blk_frozen BK426.out 0; have hfz13_1 := blk_frozen BK426.out 1; have hfz13_2 := blk_frozen BK426.out 2; have hfz13_3 := blk_frozen BK426.out 3; have hfz13_4 := blk_frozen BK426.out 4; have hcz14_0 : w8.cell? ⟨gb427, 0, none⟩ = some (.int .i64 a2_0) := (blk_cell BK427.out 0).trans rfl; have hcz14_1 : w8.cell? ⟨gb427, 1, none⟩ = some (.int .i64 a2_1) := (blk_cell BK427.out 1).trans rfl; have hcz14_2 : w8.cell? ⟨gb427, 2, none⟩ = some (.int .i64 a2_2) := (blk_cell BK427.out 2).trans rfl; have hcz14_3 : w8.cell? ⟨gb427, 3, none⟩ = some (.string a2_3) := (blk_cell BK427.out 3).trans rfl; have hcz14_4 : w8.cell? ⟨gb427, 4, none⟩ = some (.string a2_4) := (blk_cell BK427.out 4).trans rfl; have hfz14_0 := blk_frozen BK427.out 0; have hfz14_1 := blk_frozen BK427.out 1; have hfz14_2 := blk_frozen BK427.out 2; have hfz14_3 := blk_frozen BK427.out 3; have hfz14_4 := blk_frozen BK427.out 4) | ((with_reducible refine gate_callee (f := 10) rfl ?_); refine goesL_ (some 33) rfl rfl Tryd.func10 (by kernel_rfl) rfl #[] rfl (by (try simp only [List.map_toArray, List.map_cons, List.map_nil]); first | done | rfl | (simp only [List.length_drop, List.length_take]; rfl)) ?_; (with_reducible refine (armadalaw07_live.calls k  true _ A5.out (LW0 := LW.out.below (by repeat (first | (with_reducible first | exact HB.out | apply below_alloc | apply pw_below_drewN | apply below_drew1 | refine below_set ?_ GE425.out | refine below_set ?_ GE426.out | refine below_set ?_ GE427.out) | exact HB.out)))).mono ?_); rintro e w15 ⟨rfl, hb⟩; refine ⟨_, rfl, ?_⟩; have n0_ := Aside0.mk (blk_below (g := gb425) (o := .cells #[.int .i64 a0_0, .int .i64 a0_1, .int .i64 a0_2, .string a0_3, .string a0_4] 23 (0, 0)) (by (with_reducible repeat (first | refine blk_drewN ?_ _ | refine blk_drew ?_ | refine blk_alloc ?_ _)); exact BK425.out) hb); have n1_ := Aside0.mk (blk_below (g := gb426) (o := .cells #[.int .i64 a1_0, .int .i64 a1_1, .int .i64 a1_2, .string a1_3, .string a1_4] 23 (0, 0)) (by (with_reducible repeat (first | refine blk_drewN ?_ _ | refine blk_drew ?_ | refine blk_alloc ?_ _)); exact BK426.out) hb); have n2_ := Aside0.mk (blk_below (g := gb427) (o := .cells #[.int .i64 a2_0, .int .i64 a2_1, .int .i64 a2_2, .string a2_3, .string a2_4] 23 (0, 0)) (by (with_reducible repeat (first | refine blk_drewN ?_ _ | refine blk_drew ?_ | refine blk_alloc ?_ _)); exact BK427.out) hb); have n3_ := Aside0.mk (below_step (by repeat (first | (with_reducible first | exact HB.out | apply below_alloc | apply pw_below_drewN | apply below_drew1 | refine below_set ?_ GE425.out | refine below_set ?_ GE426.out | refine below_set ?_ GE427.out) | exact HB.out)) hb); clear BK425; clear BK426; clear BK427; clear HB; have BK425 := n0_; have BK426 := n1_; have BK427 := n2_; have HB := n3_; clear n0_ n1_ n2_ n3_; (try clear hb); (try clear hb2); (try clear hk); (try clear hi)))
    go_ret
    exact ⟨by first | rfl | (simp [errW_none, errW_some] <;> rfl) | (simp [*, errW_none, errW_some] <;> rfl), by repeat (first | (with_reducible first | exact HB.out | apply below_alloc | apply pw_below_drewN | apply below_drew1 | refine below_set ?_ GE425.out | refine below_set ?_ GE426.out | refine below_set ?_ GE427.out) | exact HB.out)⟩
  · rw [if_neg c4] at H
    have c4b0 : decide (600 < (wrap64 ((wrap64 ((wrap64 ((wrap64 ((wrap64 ((a0_3.size : Int) + (a1_3.size : Int))) + (a2_3.size : Int))) + (a0_4.size : Int))) + (a1_4.size : Int))) + (a2_4.size : Int)))) = false := decide_eq_false c4
    clear c4
    replace H := Option.bind_eq_some_iff.mp H
    obtain ⟨t429, A160, H⟩ := H
    replace H : ((ver_Compare.f k a1_0 a1_1 a1_2 a1_3 a1_4 a0_0 a0_1 a0_2 a0_3 a0_4).bind fun t430 => (if t429 = (wrap64 (-t430)) then (if t429 < (-1) then (armadalaw07_VerLine.j0 k t429 true a0_0 a0_1 a0_2 a0_3 a0_4 a1_0 a1_1 a1_2 a1_3 a1_4 a2_0 a2_1 a2_2 a2_3 a2_4) else (armadalaw07_VerLine.j0 k t429 (decide (t429 > 1)) a0_0 a0_1 a0_2 a0_3 a0_4 a1_0 a1_1 a1_2 a1_3 a1_4 a2_0 a2_1 a2_2 a2_3 a2_4)) else (armadalaw07_VerLine.j0 k t429 true a0_0 a0_1 a0_2 a0_3 a0_4 a1_0 a1_1 a1_2 a1_3 a1_4 a2_0 a2_1 a2_2 a2_3 a2_4))) = some true := H
    have A16 := Aside0.mk A160
    clear A160
    have HC17 := Aside0.mk H
    clear H
    go_enter Tryd.func6, Tryd.ntmps6
    go_upto_region 4 with (first | ((with_reducible refine gate_dst (N := 3) rfl ?_); refine box_event ?hg (N := 3) ?hd (cs := #[.int .i64 a0_0, .int .i64 a0_1, .int .i64 a0_2, .string a0_3, .string a0_4]) (t := 23) ?hr ?_; (case hd => rfl); (case hg => rfl); (case hr => first | (go_simp; done) | (go_simp; rfl)); intro gb425 hg w18 hbox hb; have n0_ := Aside0.mk (below_step (by repeat (first | (with_reducible first | exact HB.out | apply below_alloc | apply pw_below_drewN | apply below_drew1) | exact HB.out)) hb); have n1_ := Aside0.mk (hbox); have n2_ := Aside0.mk ((by rw [hg]; exact (below_size (by repeat (first | (with_reducible first | exact HB.out | apply below_alloc | apply pw_below_drewN | apply below_drew1) | exact HB.out))) : w.heap.size ≤ gb425)); have n3_ := Aside0.mk ((by rw [hg]; exact (below_size (by repeat (first | (with_reducible first | exact HB.out | apply below_alloc | apply pw_below_drewN | apply below_drew1) | exact HB.out))) : w.heap.size ≤ gb425)); clear HB; have HB := n0_; have BK425 := n1_; have GW425 := n2_; have GE425 := n3_; clear n0_ n1_ n2_ n3_; clear hb hbox hg) | ((with_reducible refine gate_dst (N := 4) rfl ?_); refine box_event ?hg (N := 4) ?hd (cs := #[.int .i64 a1_0, .int .i64 a1_1, .int .i64 a1_2, .string a1_3, .string a1_4]) (t := 23) ?hr ?_; (case hd => rfl); (case hg => rfl); (case hr => first | (go_simp; done) | (go_simp; rfl)); intro gb426 hg w19 hbox hb; have n0_ := Aside0.mk (blk_below (g := gb425) (o := .cells #[.int .i64 a0_0, .int .i64 a0_1, .int .i64 a0_2, .string a0_3, .string a0_4] 23 (0, 0)) (by (with_reducible repeat (first | refine blk_drewN ?_ _ | refine blk_drew ?_ | refine blk_alloc ?_ _)); exact BK425.out) hb); have n1_ := Aside0.mk (below_step (by repeat (first | (with_reducible first | exact HB.out | apply below_alloc | apply pw_below_drewN | apply below_drew1 | refine below_set ?_ GE425.out) | exact HB.out)) hb); have n2_ := Aside0.mk (hbox); have n3_ := Aside0.mk ((by rw [hg]; exact (below_size (by repeat (first | (with_reducible first | exact HB.out | apply below_alloc | apply pw_below_drewN | apply below_drew1 | refine below_set ?_ GE425.out) | exact HB.out))) : w.heap.size ≤ gb426)); have n4_ := Aside0.mk ((by rw [hg]; exact (below_size (by repeat (first | (with_reducible first | exact HB.out | apply below_alloc | apply pw_below_drewN | apply below_drew1 | refine below_set ?_ GE425.out) | exact HB.out))) : w.heap.size ≤ gb426)); have n5_ := Aside0.mk ((by rw [hg]; exact Nat.ne_of_lt (blk_lt (g := gb425) (o := .cells #[.int .i64 a0_0, .int .i64 a0_1, .int .i64 a0_2, .string a0_3, .string a0_4] 23 (0, 0)) (by (with_reducible repeat (first | refine blk_drewN ?_ _ | refine blk_drew ?_ | refine blk_alloc ?_ _)); exact BK425.out)) : gb425 ≠ gb426)); have n6_ := Aside0.mk ((by rw [hg]; exact Nat.ne_of_gt (blk_lt (g := gb425) (o := .cells #[.int .i64 a0_0, .int .i64 a0_1, .int .i64 a0_2, .string a0_3, .string a0_4] 23 (0, 0)) (by (with_reducible repeat (first | refine blk_drewN ?_ _ | refine blk_drew ?_ | refine blk_alloc ?_ _)); exact BK425.out)) : gb426 ≠ gb425)); clear BK425; clear HB; have BK425 := n0_; have HB := n1_; have BK426 := n2_; have GW426 := n3_; have GE426 := n4_; have NB425_426 := n5_; have NB426_425 := n6_; clear n0_ n1_ n2_ n3_ n4_ n5_ n6_; clear hb hbox hg) | ((with_reducible refine gate_dst (N := 5) rfl ?_); refine box_event ?hg (N := 5) ?hd (cs := #[.int .i64 a2_0, .int .i64 a2_1, .int .i64 a2_2, .string a2_3, .string a2_4]) (t := 23) ?hr ?_; (case hd => rfl); (case hg => rfl); (case hr => first | (go_simp; done) | (go_simp; rfl)); intro gb427 hg w20 hbox hb; have n0_ := Aside0.mk (blk_below (g := gb425) (o := .cells #[.int .i64 a0_0, .int .i64 a0_1, .int .i64 a0_2, .string a0_3, .string a0_4] 23 (0, 0)) (by (with_reducible repeat (first | refine blk_drewN ?_ _ | refine blk_drew ?_ | refine blk_alloc ?_ _)); exact BK425.out) hb); have n1_ := Aside0.mk (blk_below (g := gb426) (o := .cells #[.int .i64 a1_0, .int .i64 a1_1, .int .i64 a1_2, .string a1_3, .string a1_4] 23 (0, 0)) (by (with_reducible repeat (first | refine blk_drewN ?_ _ | refine blk_drew ?_ | refine blk_alloc ?_ _)); exact BK426.out) hb); have n2_ := Aside0.mk (below_step (by repeat (first | (with_reducible first | exact HB.out | apply below_alloc | apply pw_below_drewN | apply below_drew1 | refine below_set ?_ GE425.out | refine below_set ?_ GE426.out) | exact HB.out)) hb); have n3_ := Aside0.mk (hbox); have n4_ := Aside0.mk ((by rw [hg]; exact (below_size (by repeat (first | (with_reducible first | exact HB.out | apply below_alloc | apply pw_below_drewN | apply below_drew1 | refine below_set ?_ GE425.out | refine below_set ?_ GE426.out) | exact HB.out))) : w.heap.size ≤ gb427)); have n5_ := Aside0.mk ((by rw [hg]; exact (below_size (by repeat (first | (with_reducible first | exact HB.out | apply below_alloc | apply pw_below_drewN | apply below_drew1 | refine below_set ?_ GE425.out | refine below_set ?_ GE426.out) | exact HB.out))) : w.heap.size ≤ gb427)); have n6_ := Aside0.mk ((by rw [hg]; exact Nat.ne_of_lt (blk_lt (g := gb425) (o := .cells #[.int .i64 a0_0, .int .i64 a0_1, .int .i64 a0_2, .string a0_3, .string a0_4] 23 (0, 0)) (by (with_reducible repeat (first | refine blk_drewN ?_ _ | refine blk_drew ?_ | refine blk_alloc ?_ _)); exact BK425.out)) : gb425 ≠ gb427)); have n7_ := Aside0.mk ((by rw [hg]; exact Nat.ne_of_gt (blk_lt (g := gb425) (o := .cells #[.int .i64 a0_0, .int .i64 a0_1, .int .i64 a0_2, .string a0_3, .string a0_4] 23 (0, 0)) (by (with_reducible repeat (first | refine blk_drewN ?_ _ | refine blk_drew ?_ | refine blk_alloc ?_ _)); exact BK425.out)) : gb427 ≠ gb425)); have n8_ := Aside0.mk ((by rw [hg]; exact Nat.ne_of_lt (blk_lt (g := gb426) (o := .cells #[.int .i64 a1_0, .int .i64 a1_1, .int .i64 a1_2, .string a1_3, .string a1_4] 23 (0, 0)) (by (with_reducible repeat (first | refine blk_drewN ?_ _ | refine blk_drew ?_ | refine blk_alloc ?_ _)); exact BK426.out)) : gb426 ≠ gb427)); have n9_ := Aside0.mk ((by rw [hg]; exact Nat.ne_of_gt (blk_lt (g := gb426) (o := .cells #[.int .i64 a1_0, .int .i64 a1_1, .int .i64 a1_2, .string a1_3, .string a1_4] 23 (0, 0)) (by (with_reducible repeat (first | refine blk_drewN ?_ _ | refine blk_drew ?_ | refine blk_alloc ?_ _)); exact BK426.out)) : gb427 ≠ gb426)); clear BK425; clear BK426; clear HB; have BK425 := n0_; have BK426 := n1_; have HB := n2_; have BK427 := n3_; have GW427 := n4_; have GE427 := n5_; have NB425_427 := n6_; have NB427_425 := n7_; have NB426_427 := n8_; have NB427_426 := n9_; clear n0_ n1_ n2_ n3_ n4_ n5_ n6_ n7_ n8_ n9_; clear hb hbox hg; have hnb21 := NB425_426.out; have hnc21 := NB426_425.out; have hnb22 := NB425_427.out; have hnc22 := NB427_425.out; have hcz23_0 : w20.cell? ⟨gb425, 0, none⟩ = some (.int .i64 a0_0) := (blk_cell BK425.out 0).trans rfl; have hcz23_1 : w20.cell? ⟨gb425, 1, none⟩ = some (.int .i64 a0_1) := (blk_cell BK425.out 1).trans rfl; have hcz23_2 : w20.cell? ⟨gb425, 2, none⟩ = some (.int .i64 a0_2) := (blk_cell BK425.out 2).trans rfl; have hcz23_3 : w20.cell? ⟨gb425, 3, none⟩ = some (.string a0_3) := (blk_cell BK425.out 3).trans rfl; have hcz23_4 : w20.cell? ⟨gb425, 4, none⟩ = some (.string a0_4) := (blk_cell BK425.out 4).trans rfl; have hfz23_0 := blk_frozen BK425.out 0; have hfz23_1 := blk_frozen BK425.out 1; have hfz23_2 := blk_frozen BK425.out 2; have hfz23_3 := blk_frozen BK425.out 3; have hfz23_4 := blk_frozen BK425.out 4; have hnb24 := NB426_427.out; have hnc24 := NB427_426.out; have hcz25_0 : w20.cell? ⟨gb426, 0, none⟩ = some (.int .i64 a1_0) := (blk_cell BK426.out 0).trans rfl; have hcz25_1 : w20.cell? ⟨gb426, 1, none⟩ = some (.int .i64 a1_1) := (blk_cell BK426.out 1).trans rfl; have hcz25_2 : w20.cell? ⟨gb426, 2, none⟩ = some (.int .i64 a1_2) := (blk_cell BK426.out 2).trans rfl; have hcz25_3 : w20.cell? ⟨gb426, 3, none⟩ = some (.string a1_3) := (blk_cell BK426.out 3).trans rfl; have hcz25_4 : w20.cell? ⟨gb426, 4, none⟩ = some (.string a1_4) := (blk_cell BK426.out 4).trans rfl; have hfz25_0 := blk_frozen BK426.out 0; have hfz25_1 := blk_frozen BK426.out 1; have hfz25_2 := blk_frozen BK426.out 2; have hfz25_3 := blk_frozen BK426.out 3; have hfz25_4 := blk_frozen BK426.out 4; have hcz26_0 : w20.cell? ⟨gb427, 0, none⟩ = some (.int .i64 a2_0) := (blk_cell BK427.out 0).trans rfl; have hcz26_1 : w20.cell? ⟨gb427, 1, none⟩ = some (.int .i64 a2_1) := (blk_cell BK427.out 1).trans rfl; have hcz26_2 : w20.cell? ⟨gb427, 2, none⟩ = some (.int .i64 a2_2) := (blk_cell BK427.out 2).trans rfl; have hcz26_3 : w20.cell? ⟨gb427, 3, none⟩ = some (.string a2_3) := (blk_cell BK427.out 3).trans rfl; have hcz26_4 : w20.cell? ⟨gb427, 4, none⟩ = some (.string a2_4) := (blk_cell BK427.out 4).trans rfl; have hfz26_0 := blk_frozen BK427.out 0; have hfz26_1 := blk_frozen BK427.out 1; have hfz26_2 := blk_frozen BK427.out 2; have hfz26_3 := blk_frozen BK427.out 3; have hfz26_4 := blk_frozen BK427.out 4) | ((with_reducible refine gate_callee (f := 19) rfl ?_); refine goesL_ (some 36) rfl rfl Tryd.func19 (by kernel_rfl) rfl #[.agg #[.int .i64 a0_0, .int .i64 a0_1, .int .i64 a0_2, .string a0_3, .string a0_4], .agg #[.int .i64 a1_0, .int .i64 a1_1, .int .i64 a1_2, .string a1_3, .string a1_4]] rfl (by (try simp only [List.map_toArray, List.map_cons, List.map_nil]); first | done | rfl | (simp only [List.length_drop, List.length_take]; rfl)) ?_; (with_reducible refine (ver_Compare.calls k a0_0 a0_1 a0_2 a0_3 a0_4 a1_0 a1_1 a1_2 a1_3 a1_4 t429 _ A16.out).mono ?_); rintro e w27 ⟨rfl, hb⟩; refine ⟨_, rfl, ?_⟩; have n0_ := Aside0.mk (blk_below (g := gb425) (o := .cells #[.int .i64 a0_0, .int .i64 a0_1, .int .i64 a0_2, .string a0_3, .string a0_4] 23 (0, 0)) (by (with_reducible repeat (first | refine blk_drewN ?_ _ | refine blk_drew ?_ | refine blk_alloc ?_ _)); exact BK425.out) hb); have n1_ := Aside0.mk (blk_below (g := gb426) (o := .cells #[.int .i64 a1_0, .int .i64 a1_1, .int .i64 a1_2, .string a1_3, .string a1_4] 23 (0, 0)) (by (with_reducible repeat (first | refine blk_drewN ?_ _ | refine blk_drew ?_ | refine blk_alloc ?_ _)); exact BK426.out) hb); have n2_ := Aside0.mk (blk_below (g := gb427) (o := .cells #[.int .i64 a2_0, .int .i64 a2_1, .int .i64 a2_2, .string a2_3, .string a2_4] 23 (0, 0)) (by (with_reducible repeat (first | refine blk_drewN ?_ _ | refine blk_drew ?_ | refine blk_alloc ?_ _)); exact BK427.out) hb); have n3_ := Aside0.mk (below_step (by repeat (first | (with_reducible first | exact HB.out | apply below_alloc | apply pw_below_drewN | apply below_drew1 | refine below_set ?_ GE425.out | refine below_set ?_ GE426.out | refine below_set ?_ GE427.out) | exact HB.out)) hb); clear BK425; clear BK426; clear BK427; clear HB; have BK425 := n0_; have BK426 := n1_; have BK427 := n2_; have HB := n3_; clear n0_ n1_ n2_ n3_; (try clear hb); (try clear hb2); (try clear hk); (try clear hi)))
    (try simp only [Act.put, List.setIfInBounds_toArray, List.set_cons_zero, List.set_cons_succ])
    go_cut [50] (fun v50 wc => ∃ (kq : Nat) (x50_16 : Bool), v50 = .bool x50_16 ∧ Aside0 (armadalaw07_VerLine.j0 kq t429 x50_16 a0_0 a0_1 a0_2 a0_3 a0_4 a1_0 a1_1 a1_2 a1_3 a1_4 a2_0 a2_1 a2_2 a2_3 a2_4 = some true) ∧ Aside0 (kq ≤ k) ∧ Aside0 (wc.heap[gb425]? = some (.cells #[.int .i64 a0_0, .int .i64 a0_1, .int .i64 a0_2, .string a0_3, .string a0_4] 23 (0, 0))) ∧ Aside0 (wc.heap[gb426]? = some (.cells #[.int .i64 a1_0, .int .i64 a1_1, .int .i64 a1_2, .string a1_3, .string a1_4] 23 (0, 0))) ∧ Aside0 (wc.heap[gb427]? = some (.cells #[.int .i64 a2_0, .int .i64 a2_1, .int .i64 a2_2, .string a2_3, .string a2_4] 23 (0, 0))) ∧ Aside0 (Below w.heap.size w wc))
    case first =>
      have H := HC17.out
      clear HC17
      replace H := Option.bind_eq_some_iff.mp H
      obtain ⟨t430, A280, H⟩ := H
      replace H : (if t429 = (wrap64 (-t430)) then (if t429 < (-1) then (armadalaw07_VerLine.j0 k t429 true a0_0 a0_1 a0_2 a0_3 a0_4 a1_0 a1_1 a1_2 a1_3 a1_4 a2_0 a2_1 a2_2 a2_3 a2_4) else (armadalaw07_VerLine.j0 k t429 (decide (t429 > 1)) a0_0 a0_1 a0_2 a0_3 a0_4 a1_0 a1_1 a1_2 a1_3 a1_4 a2_0 a2_1 a2_2 a2_3 a2_4)) else (armadalaw07_VerLine.j0 k t429 true a0_0 a0_1 a0_2 a0_3 a0_4 a1_0 a1_1 a1_2 a1_3 a1_4 a2_0 a2_1 a2_2 a2_3 a2_4)) = some true := H
      have A28 := Aside0.mk A280
      clear A280
      by_cases c29 : t429 = (wrap64 (-t430))
      · rw [if_pos c29] at H
        have c29b0 : (t429 == (wrap64 (-t430))) = true := beq_iff_eq.mpr c29
        have c29b1 : (t429 != (wrap64 (-t430))) = false := bne_eq_false_iff_eq.mpr c29
        clear c29
        (first | rw [c29b0] | (simp only [i64_w, i32_w]; rw [c29b0]) | skip)
        by_cases c30 : t429 < (-1)
        · rw [if_pos c30] at H
          have c30b0 : decide (t429 < (-1)) = true := decide_eq_true c30
          clear c30
          have H' := Aside0.mk H
          clear H
          have hnb31 := NB426_425.out
          have hnc31 := NB425_426.out
          have hnb32 := NB426_427.out
          have hnc32 := NB427_426.out
          have hcz33_0 : w27.cell? ⟨gb426, 0, none⟩ = some (.int .i64 a1_0) := (blk_cell BK426.out 0).trans rfl
          have hcz33_1 : w27.cell? ⟨gb426, 1, none⟩ = some (.int .i64 a1_1) := (blk_cell BK426.out 1).trans rfl
          have hcz33_2 : w27.cell? ⟨gb426, 2, none⟩ = some (.int .i64 a1_2) := (blk_cell BK426.out 2).trans rfl
          have hcz33_3 : w27.cell? ⟨gb426, 3, none⟩ = some (.string a1_3) := (blk_cell BK426.out 3).trans rfl
          have hcz33_4 : w27.cell? ⟨gb426, 4, none⟩ = some (.string a1_4) := (blk_cell BK426.out 4).trans rfl
          have hfz33_0 := blk_frozen BK426.out 0
          have hfz33_1 := blk_frozen BK426.out 1
          have hfz33_2 := blk_frozen BK426.out 2
          have hfz33_3 := blk_frozen BK426.out 3
          have hfz33_4 := blk_frozen BK426.out 4
          have hnb34 := NB425_427.out
          have hnc34 := NB427_425.out
          have hcz35_0 : w27.cell? ⟨gb425, 0, none⟩ = some (.int .i64 a0_0) := (blk_cell BK425.out 0).trans rfl
          have hcz35_1 : w27.cell? ⟨gb425, 1, none⟩ = some (.int .i64 a0_1) := (blk_cell BK425.out 1).trans rfl
          have hcz35_2 : w27.cell? ⟨gb425, 2, none⟩ = some (.int .i64 a0_2) := (blk_cell BK425.out 2).trans rfl
          have hcz35_3 : w27.cell? ⟨gb425, 3, none⟩ = some (.string a0_3) := (blk_cell BK425.out 3).trans rfl
          have hcz35_4 : w27.cell? ⟨gb425, 4, none⟩ = some (.string a0_4) := (blk_cell BK425.out 4).trans rfl
          have hfz35_0 := blk_frozen BK425.out 0
          have hfz35_1 := blk_frozen BK425.out 1
          have hfz35_2 := blk_frozen BK425.out 2
          have hfz35_3 := blk_frozen BK425.out 3
          have hfz35_4 := blk_frozen BK425.out 4
          go_wp2_with (first | ((with_reducible refine gate_callee (f := 19) rfl ?_); refine goesL_ (some 40) rfl rfl Tryd.func19 (by kernel_rfl) rfl #[.agg #[.int .i64 a1_0, .int .i64 a1_1, .int .i64 a1_2, .string a1_3, .string a1_4], .agg #[.int .i64 a0_0, .int .i64 a0_1, .int .i64 a0_2, .string a0_3, .string a0_4]] rfl (by (try simp only [List.map_toArray, List.map_cons, List.map_nil]); first | done | rfl | (simp only [List.length_drop, List.length_take]; rfl)) ?_; (with_reducible refine (ver_Compare.calls k a1_0 a1_1 a1_2 a1_3 a1_4 a0_0 a0_1 a0_2 a0_3 a0_4 t430 _ A28.out).mono ?_); rintro e w36 ⟨rfl, hb⟩; refine ⟨_, rfl, ?_⟩; have n0_ := Aside0.mk (blk_below (g := gb425) (o := .cells #[.int .i64 a0_0, .int .i64 a0_1, .int .i64 a0_2, .string a0_3, .string a0_4] 23 (0, 0)) (by (with_reducible repeat (first | refine blk_drewN ?_ _ | refine blk_drew ?_ | refine blk_alloc ?_ _)); exact BK425.out) hb); have n1_ := Aside0.mk (blk_below (g := gb426) (o := .cells #[.int .i64 a1_0, .int .i64 a1_1, .int .i64 a1_2, .string a1_3, .string a1_4] 23 (0, 0)) (by (with_reducible repeat (first | refine blk_drewN ?_ _ | refine blk_drew ?_ | refine blk_alloc ?_ _)); exact BK426.out) hb); have n2_ := Aside0.mk (blk_below (g := gb427) (o := .cells #[.int .i64 a2_0, .int .i64 a2_1, .int .i64 a2_2, .string a2_3, .string a2_4] 23 (0, 0)) (by (with_reducible repeat (first | refine blk_drewN ?_ _ | refine blk_drew ?_ | refine blk_alloc ?_ _)); exact BK427.out) hb); have n3_ := Aside0.mk (below_step (by repeat (first | (with_reducible first | exact HB.out | apply below_alloc | apply pw_below_drewN | apply below_drew1 | refine below_set ?_ GE425.out | refine below_set ?_ GE426.out | refine below_set ?_ GE427.out) | exact HB.out)) hb); clear BK425; clear BK426; clear BK427; clear HB; have BK425 := n0_; have BK426 := n1_; have BK427 := n2_; have HB := n3_; clear n0_ n1_ n2_ n3_; (try clear hb); (try clear hb2); (try clear hk); (try clear hi)))
          go_meet
          case rel => exact ⟨_, (true), (by first | rfl | (simp; done) | (simp [*]; done)), H', ⟨by first | omega | exact Nat.le_refl _⟩, ⟨by (with_reducible repeat (first | refine blk_drewN ?_ _ | refine blk_drew ?_ | refine blk_alloc ?_ _)); exact BK425.out⟩, ⟨by (with_reducible repeat (first | refine blk_drewN ?_ _ | refine blk_drew ?_ | refine blk_alloc ?_ _)); exact BK426.out⟩, ⟨by (with_reducible repeat (first | refine blk_drewN ?_ _ | refine blk_drew ?_ | refine blk_alloc ?_ _)); exact BK427.out⟩, ⟨by repeat (first | (with_reducible first | exact HB.out | apply below_alloc | apply pw_below_drewN | apply below_drew1 | refine below_set ?_ GE425.out | refine below_set ?_ GE426.out | refine below_set ?_ GE427.out) | exact HB.out)⟩⟩
        · rw [if_neg c30] at H
          have c30b0 : decide (t429 < (-1)) = false := decide_eq_false c30
          clear c30
          have H' := Aside0.mk H
          clear H
          have hnb37 := NB426_425.out
          have hnc37 := NB425_426.out
          have hnb38 := NB426_427.out
          have hnc38 := NB427_426.out
          have hcz39_0 : w27.cell? ⟨gb426, 0, none⟩ = some (.int .i64 a1_0) := (blk_cell BK426.out 0).trans rfl
          have hcz39_1 : w27.cell? ⟨gb426, 1, none⟩ = some (.int .i64 a1_1) := (blk_cell BK426.out 1).trans rfl
          have hcz39_2 : w27.cell? ⟨gb426, 2, none⟩ = some (.int .i64 a1_2) := (blk_cell BK426.out 2).trans rfl
          have hcz39_3 : w27.cell? ⟨gb426, 3, none⟩ = some (.string a1_3) := (blk_cell BK426.out 3).trans rfl
          have hcz39_4 : w27.cell? ⟨gb426, 4, none⟩ = some (.string a1_4) := (blk_cell BK426.out 4).trans rfl
          have hfz39_0 := blk_frozen BK426.out 0
          have hfz39_1 := blk_frozen BK426.out 1
          have hfz39_2 := blk_frozen BK426.out 2
          have hfz39_3 := blk_frozen BK426.out 3
          have hfz39_4 := blk_frozen BK426.out 4
          have hnb40 := NB425_427.out
          have hnc40 := NB427_425.out
          have hcz41_0 : w27.cell? ⟨gb425, 0, none⟩ = some (.int .i64 a0_0) := (blk_cell BK425.out 0).trans rfl
          have hcz41_1 : w27.cell? ⟨gb425, 1, none⟩ = some (.int .i64 a0_1) := (blk_cell BK425.out 1).trans rfl
          have hcz41_2 : w27.cell? ⟨gb425, 2, none⟩ = some (.int .i64 a0_2) := (blk_cell BK425.out 2).trans rfl
          have hcz41_3 : w27.cell? ⟨gb425, 3, none⟩ = some (.string a0_3) := (blk_cell BK425.out 3).trans rfl
          have hcz41_4 : w27.cell? ⟨gb425, 4, none⟩ = some (.string a0_4) := (blk_cell BK425.out 4).trans rfl
          have hfz41_0 := blk_frozen BK425.out 0
          have hfz41_1 := blk_frozen BK425.out 1
          have hfz41_2 := blk_frozen BK425.out 2
          have hfz41_3 := blk_frozen BK425.out 3
          have hfz41_4 := blk_frozen BK425.out 4
          go_wp2_with (first | ((with_reducible refine gate_callee (f := 19) rfl ?_); refine goesL_ (some 40) rfl rfl Tryd.func19 (by kernel_rfl) rfl #[.agg #[.int .i64 a1_0, .int .i64 a1_1, .int .i64 a1_2, .string a1_3, .string a1_4], .agg #[.int .i64 a0_0, .int .i64 a0_1, .int .i64 a0_2, .string a0_3, .string a0_4]] rfl (by (try simp only [List.map_toArray, List.map_cons, List.map_nil]); first | done | rfl | (simp only [List.length_drop, List.length_take]; rfl)) ?_; (with_reducible refine (ver_Compare.calls k a1_0 a1_1 a1_2 a1_3 a1_4 a0_0 a0_1 a0_2 a0_3 a0_4 t430 _ A28.out).mono ?_); rintro e w42 ⟨rfl, hb⟩; refine ⟨_, rfl, ?_⟩; have n0_ := Aside0.mk (blk_below (g := gb425) (o := .cells #[.int .i64 a0_0, .int .i64 a0_1, .int .i64 a0_2, .string a0_3, .string a0_4] 23 (0, 0)) (by (with_reducible repeat (first | refine blk_drewN ?_ _ | refine blk_drew ?_ | refine blk_alloc ?_ _)); exact BK425.out) hb); have n1_ := Aside0.mk (blk_below (g := gb426) (o := .cells #[.int .i64 a1_0, .int .i64 a1_1, .int .i64 a1_2, .string a1_3, .string a1_4] 23 (0, 0)) (by (with_reducible repeat (first | refine blk_drewN ?_ _ | refine blk_drew ?_ | refine blk_alloc ?_ _)); exact BK426.out) hb); have n2_ := Aside0.mk (blk_below (g := gb427) (o := .cells #[.int .i64 a2_0, .int .i64 a2_1, .int .i64 a2_2, .string a2_3, .string a2_4] 23 (0, 0)) (by (with_reducible repeat (first | refine blk_drewN ?_ _ | refine blk_drew ?_ | refine blk_alloc ?_ _)); exact BK427.out) hb); have n3_ := Aside0.mk (below_step (by repeat (first | (with_reducible first | exact HB.out | apply below_alloc | apply pw_below_drewN | apply below_drew1 | refine below_set ?_ GE425.out | refine below_set ?_ GE426.out | refine below_set ?_ GE427.out) | exact HB.out)) hb); clear BK425; clear BK426; clear BK427; clear HB; have BK425 := n0_; have BK426 := n1_; have BK427 := n2_; have HB := n3_; clear n0_ n1_ n2_ n3_; (try clear hb); (try clear hb2); (try clear hk); (try clear hi)))
          go_meet
          case rel => exact ⟨_, (decide (t429 > 1)), (by first | rfl | (simp; done) | (simp [*]; done)), H', ⟨by first | omega | exact Nat.le_refl _⟩, ⟨by (with_reducible repeat (first | refine blk_drewN ?_ _ | refine blk_drew ?_ | refine blk_alloc ?_ _)); exact BK425.out⟩, ⟨by (with_reducible repeat (first | refine blk_drewN ?_ _ | refine blk_drew ?_ | refine blk_alloc ?_ _)); exact BK426.out⟩, ⟨by (with_reducible repeat (first | refine blk_drewN ?_ _ | refine blk_drew ?_ | refine blk_alloc ?_ _)); exact BK427.out⟩, ⟨by repeat (first | (with_reducible first | exact HB.out | apply below_alloc | apply pw_below_drewN | apply below_drew1 | refine below_set ?_ GE425.out | refine below_set ?_ GE426.out | refine below_set ?_ GE427.out) | exact HB.out)⟩⟩
      · rw [if_neg c29] at H
        have c29b0 : (t429 == (wrap64 (-t430))) = false := beq_eq_false_iff_ne.mpr c29
        have c29b1 : (t429 != (wrap64 (-t430))) = true := bne_iff_ne.mpr c29
        (first | rw [c29b0] | (simp only [i64_w, i32_w]; rw [c29b0]) | skip)
        have H' := Aside0.mk H
        clear H
        have hnb43 := NB426_425.out
        have hnc43 := NB425_426.out
        have hnb44 := NB426_427.out
        have hnc44 := NB427_426.out
        have hcz45_0 : w27.cell? ⟨gb426, 0, none⟩ = some (.int .i64 a1_0) := (blk_cell BK426.out 0).trans rfl
        have hcz45_1 : w27.cell? ⟨gb426, 1, none⟩ = some (.int .i64 a1_1) := (blk_cell BK426.out 1).trans rfl
        have hcz45_2 : w27.cell? ⟨gb426, 2, none⟩ = some (.int .i64 a1_2) := (blk_cell BK426.out 2).trans rfl
        have hcz45_3 : w27.cell? ⟨gb426, 3, none⟩ = some (.string a1_3) := (blk_cell BK426.out 3).trans rfl
        have hcz45_4 : w27.cell? ⟨gb426, 4, none⟩ = some (.string a1_4) := (blk_cell BK426.out 4).trans rfl
        have hfz45_0 := blk_frozen BK426.out 0
        have hfz45_1 := blk_frozen BK426.out 1
        have hfz45_2 := blk_frozen BK426.out 2
        have hfz45_3 := blk_frozen BK426.out 3
        have hfz45_4 := blk_frozen BK426.out 4
        have hnb46 := NB425_427.out
        have hnc46 := NB427_425.out
        have hcz47_0 : w27.cell? ⟨gb425, 0, none⟩ = some (.int .i64 a0_0) := (blk_cell BK425.out 0).trans rfl
        have hcz47_1 : w27.cell? ⟨gb425, 1, none⟩ = some (.int .i64 a0_1) := (blk_cell BK425.out 1).trans rfl
        have hcz47_2 : w27.cell? ⟨gb425, 2, none⟩ = some (.int .i64 a0_2) := (blk_cell BK425.out 2).trans rfl
        have hcz47_3 : w27.cell? ⟨gb425, 3, none⟩ = some (.string a0_3) := (blk_cell BK425.out 3).trans rfl
        have hcz47_4 : w27.cell? ⟨gb425, 4, none⟩ = some (.string a0_4) := (blk_cell BK425.out 4).trans rfl
        have hfz47_0 := blk_frozen BK425.out 0
        have hfz47_1 := blk_frozen BK425.out 1
        have hfz47_2 := blk_frozen BK425.out 2
        have hfz47_3 := blk_frozen BK425.out 3
        have hfz47_4 := blk_frozen BK425.out 4
        go_wp2_with (first | ((with_reducible refine gate_callee (f := 19) rfl ?_); refine goesL_ (some 40) rfl rfl Tryd.func19 (by kernel_rfl) rfl #[.agg #[.int .i64 a1_0, .int .i64 a1_1, .int .i64 a1_2, .string a1_3, .string a1_4], .agg #[.int .i64 a0_0, .int .i64 a0_1, .int .i64 a0_2, .string a0_3, .string a0_4]] rfl (by (try simp only [List.map_toArray, List.map_cons, List.map_nil]); first | done | rfl | (simp only [List.length_drop, List.length_take]; rfl)) ?_; (with_reducible refine (ver_Compare.calls k a1_0 a1_1 a1_2 a1_3 a1_4 a0_0 a0_1 a0_2 a0_3 a0_4 t430 _ A28.out).mono ?_); rintro e w48 ⟨rfl, hb⟩; refine ⟨_, rfl, ?_⟩; have n0_ := Aside0.mk (blk_below (g := gb425) (o := .cells #[.int .i64 a0_0, .int .i64 a0_1, .int .i64 a0_2, .string a0_3, .string a0_4] 23 (0, 0)) (by (with_reducible repeat (first | refine blk_drewN ?_ _ | refine blk_drew ?_ | refine blk_alloc ?_ _)); exact BK425.out) hb); have n1_ := Aside0.mk (blk_below (g := gb426) (o := .cells #[.int .i64 a1_0, .int .i64 a1_1, .int .i64 a1_2, .string a1_3, .string a1_4] 23 (0, 0)) (by (with_reducible repeat (first | refine blk_drewN ?_ _ | refine blk_drew ?_ | refine blk_alloc ?_ _)); exact BK426.out) hb); have n2_ := Aside0.mk (blk_below (g := gb427) (o := .cells #[.int .i64 a2_0, .int .i64 a2_1, .int .i64 a2_2, .string a2_3, .string a2_4] 23 (0, 0)) (by (with_reducible repeat (first | refine blk_drewN ?_ _ | refine blk_drew ?_ | refine blk_alloc ?_ _)); exact BK427.out) hb); have n3_ := Aside0.mk (below_step (by repeat (first | (with_reducible first | exact HB.out | apply below_alloc | apply pw_below_drewN | apply below_drew1 | refine below_set ?_ GE425.out | refine below_set ?_ GE426.out | refine below_set ?_ GE427.out) | exact HB.out)) hb); clear BK425; clear BK426; clear BK427; clear HB; have BK425 := n0_; have BK426 := n1_; have BK427 := n2_; have HB := n3_; clear n0_ n1_ n2_ n3_; (try clear hb); (try clear hb2); (try clear hk); (try clear hi)))
        go_meet
        case rel => exact ⟨_, (true), (by first | rfl | (simp; done) | (simp [*]; done)), H', ⟨by first | omega | exact Nat.le_refl _⟩, ⟨by (with_reducible repeat (first | refine blk_drewN ?_ _ | refine blk_drew ?_ | refine blk_alloc ?_ _)); exact BK425.out⟩, ⟨by (with_reducible repeat (first | refine blk_drewN ?_ _ | refine blk_drew ?_ | refine blk_alloc ?_ _)); exact BK426.out⟩, ⟨by (with_reducible repeat (first | refine blk_drewN ?_ _ | refine blk_drew ?_ | refine blk_alloc ?_ _)); exact BK427.out⟩, ⟨by repeat (first | (with_reducible first | exact HB.out | apply below_alloc | apply pw_below_drewN | apply below_drew1 | refine below_set ?_ GE425.out | refine below_set ?_ GE426.out | refine below_set ?_ GE427.out) | exact HB.out)⟩⟩
    case rest =>
      clear HC17
      try clear c1
      try clear c2
      try clear p2
      try clear c3
      try clear c4
      try clear c4b0
      try clear c6
      try clear p6
      try clear c9
      try clear c10
      try clear c12
      try clear c19
      try clear c21
      try clear c22
      try clear c24
      try clear c29
      try clear c29b0
      try clear c29b1
      try clear c30
      try clear c30b0
      try clear c31
      try clear c32
      try clear c34
      try clear c37
      try clear c38
      try clear c40
      try clear c43
      try clear c44
      try clear c46
      try clear hcz11_0
      try clear hcz11_1
      try clear hcz11_2
      try clear hcz11_3
      try clear hcz11_4
      try clear hcz13_0
      try clear hcz13_1
      try clear hcz13_2
      try clear hcz13_3
      try clear hcz13_4
      try clear hcz14_0
      try clear hcz14_1
      try clear hcz14_2
      try clear hcz14_3
      try clear hcz14_4
      try clear hcz23_0
      try clear hcz23_1
      try clear hcz23_2
      try clear hcz23_3
      try clear hcz23_4
      try clear hcz25_0
      try clear hcz25_1
      try clear hcz25_2
      try clear hcz25_3
      try clear hcz25_4
      try clear hcz26_0
      try clear hcz26_1
      try clear hcz26_2
      try clear hcz26_3
      try clear hcz26_4
      try clear hcz33_0
      try clear hcz33_1
      try clear hcz33_2
      try clear hcz33_3
      try clear hcz33_4
      try clear hcz35_0
      try clear hcz35_1
      try clear hcz35_2
      try clear hcz35_3
      try clear hcz35_4
      try clear hcz39_0
      try clear hcz39_1
      try clear hcz39_2
      try clear hcz39_3
      try clear hcz39_4
      try clear hcz41_0
      try clear hcz41_1
      try clear hcz41_2
      try clear hcz41_3
      try clear hcz41_4
      try clear hcz45_0
      try clear hcz45_1
      try clear hcz45_2
      try clear hcz45_3
      try clear hcz45_4
      try clear hcz47_0
      try clear hcz47_1
      try clear hcz47_2
      try clear hcz47_3
      try clear hcz47_4
      try clear hfz11_0
      try clear hfz11_1
      try clear hfz11_2
      try clear hfz11_3
      try clear hfz11_4
      try clear hfz13_0
      try clear hfz13_1
      try clear hfz13_2
      try clear hfz13_3
      try clear hfz13_4
      try clear hfz14_0
      try clear hfz14_1
      try clear hfz14_2
      try clear hfz14_3
      try clear hfz14_4
      try clear hfz23_0
      try clear hfz23_1
      try clear hfz23_2
      try clear hfz23_3
      try clear hfz23_4
      try clear hfz25_0
      try clear hfz25_1
      try clear hfz25_2
      try clear hfz25_3
      try clear hfz25_4
      try clear hfz26_0
      try clear hfz26_1
      try clear hfz26_2
      try clear hfz26_3
      try clear hfz26_4
      try clear hfz33_0
      try clear hfz33_1
      try clear hfz33_2
      try clear hfz33_3
      try clear hfz33_4
      try clear hfz35_0
      try clear hfz35_1
      try clear hfz35_2
      try clear hfz35_3
      try clear hfz35_4
      try clear hfz39_0
      try clear hfz39_1
      try clear hfz39_2
      try clear hfz39_3
      try clear hfz39_4
      try clear hfz41_0
      try clear hfz41_1
      try clear hfz41_2
      try clear hfz41_3
      try clear hfz41_4
      try clear hfz45_0
      try clear hfz45_1
      try clear hfz45_2
      try clear hfz45_3
      try clear hfz45_4
      try clear hfz47_0
      try clear hfz47_1
      try clear hfz47_2
      try clear hfz47_3
      try clear hfz47_4
      obtain ⟨kq, x50_16, rfl, HA, HJ16, BK425, BK426, BK427, HB⟩ := hcut
      cases kq with
      | zero => exact absurd HA.out (by simp [armadalaw07_VerLine.j0])
      | succ kj16 =>
        have H := HA.out
        clear HA
        simp only [armadalaw07_VerLine.j0] at H
        by_cases c49 : x50_16 = true
        · subst c49
          have H1 : (some false) = some true := by rw [if_pos rfl] at H; exact H
          clear H
          have H := H1
          clear H1
          exact absurd H (by simp)
        · replace c49 := Bool.eq_false_iff.mpr c49
          subst c49
          have H1 : ((ver_Check.f a0_0 a0_1 a0_2 a0_3 a0_4).bind fun t431 => (if t431 = true then ((ver_Check.f a1_0 a1_1 a1_2 a1_3 a1_4).bind fun t432 => (if t432 = true then ((ver_Check.f a2_0 a2_1 a2_2 a2_3 a2_4).bind fun t433 => (armadalaw07_VerLine.j1 kj16 t429 (!t433) a0_0 a0_1 a0_2 a0_3 a0_4 a1_0 a1_1 a1_2 a1_3 a1_4 a2_0 a2_1 a2_2 a2_3 a2_4)) else (armadalaw07_VerLine.j1 kj16 t429 true a0_0 a0_1 a0_2 a0_3 a0_4 a1_0 a1_1 a1_2 a1_3 a1_4 a2_0 a2_1 a2_2 a2_3 a2_4))) else (armadalaw07_VerLine.j1 kj16 t429 true a0_0 a0_1 a0_2 a0_3 a0_4 a1_0 a1_1 a1_2 a1_3 a1_4 a2_0 a2_1 a2_2 a2_3 a2_4))) = some true := by rw [if_neg (show ¬ (false = true) by decide)] at H; exact H
          clear H
          have H := H1
          clear H1
          have HC50 := Aside0.mk H
          clear H
          go_upto_region 6 with (fail)
          go_cut [63] (fun v63 wc => ∃ (kq : Nat) (x63_49 : Bool), v63 = .bool x63_49 ∧ Aside0 (armadalaw07_VerLine.j1 kq t429 x63_49 a0_0 a0_1 a0_2 a0_3 a0_4 a1_0 a1_1 a1_2 a1_3 a1_4 a2_0 a2_1 a2_2 a2_3 a2_4 = some true) ∧ Aside0 (kq ≤ kj16) ∧ Aside0 (wc.heap[gb425]? = some (.cells #[.int .i64 a0_0, .int .i64 a0_1, .int .i64 a0_2, .string a0_3, .string a0_4] 23 (0, 0))) ∧ Aside0 (wc.heap[gb426]? = some (.cells #[.int .i64 a1_0, .int .i64 a1_1, .int .i64 a1_2, .string a1_3, .string a1_4] 23 (0, 0))) ∧ Aside0 (wc.heap[gb427]? = some (.cells #[.int .i64 a2_0, .int .i64 a2_1, .int .i64 a2_2, .string a2_3, .string a2_4] 23 (0, 0))) ∧ Aside0 (Below w.heap.size w wc))
          case first =>
            have H := HC50.out
            clear HC50
            replace H := Option.bind_eq_some_iff.mp H
            obtain ⟨t431, A510, H⟩ := H
            replace H : (if t431 = true then ((ver_Check.f a1_0 a1_1 a1_2 a1_3 a1_4).bind fun t432 => (if t432 = true then ((ver_Check.f a2_0 a2_1 a2_2 a2_3 a2_4).bind fun t433 => (armadalaw07_VerLine.j1 kj16 t429 (!t433) a0_0 a0_1 a0_2 a0_3 a0_4 a1_0 a1_1 a1_2 a1_3 a1_4 a2_0 a2_1 a2_2 a2_3 a2_4)) else (armadalaw07_VerLine.j1 kj16 t429 true a0_0 a0_1 a0_2 a0_3 a0_4 a1_0 a1_1 a1_2 a1_3 a1_4 a2_0 a2_1 a2_2 a2_3 a2_4))) else (armadalaw07_VerLine.j1 kj16 t429 true a0_0 a0_1 a0_2 a0_3 a0_4 a1_0 a1_1 a1_2 a1_3 a1_4 a2_0 a2_1 a2_2 a2_3 a2_4)) = some true := H
            have A51 := Aside0.mk A510
            clear A510
            by_cases c52 : t431 = true
            · subst c52
              have H1 : ((ver_Check.f a1_0 a1_1 a1_2 a1_3 a1_4).bind fun t432 => (if t432 = true then ((ver_Check.f a2_0 a2_1 a2_2 a2_3 a2_4).bind fun t433 => (armadalaw07_VerLine.j1 kj16 t429 (!t433) a0_0 a0_1 a0_2 a0_3 a0_4 a1_0 a1_1 a1_2 a1_3 a1_4 a2_0 a2_1 a2_2 a2_3 a2_4)) else (armadalaw07_VerLine.j1 kj16 t429 true a0_0 a0_1 a0_2 a0_3 a0_4 a1_0 a1_1 a1_2 a1_3 a1_4 a2_0 a2_1 a2_2 a2_3 a2_4))) = some true := by rw [if_pos rfl] at H; exact H
              clear H
              have H := H1
              clear H1
              replace H := Option.bind_eq_some_iff.mp H
              obtain ⟨t432, A530, H⟩ := H
              replace H : (if t432 = true then ((ver_Check.f a2_0 a2_1 a2_2 a2_3 a2_4).bind fun t433 => (armadalaw07_VerLine.j1 kj16 t429 (!t433) a0_0 a0_1 a0_2 a0_3 a0_4 a1_0 a1_1 a1_2 a1_3 a1_4 a2_0 a2_1 a2_2 a2_3 a2_4)) else (armadalaw07_VerLine.j1 kj16 t429 true a0_0 a0_1 a0_2 a0_3 a0_4 a1_0 a1_1 a1_2 a1_3 a1_4 a2_0 a2_1 a2_2 a2_3 a2_4)) = some true := H
              have A53 := Aside0.mk A530
              clear A530
              by_cases c54 : t432 = true
              · subst c54
                have H1 : ((ver_Check.f a2_0 a2_1 a2_2 a2_3 a2_4).bind fun t433 => (armadalaw07_VerLine.j1 kj16 t429 (!t433) a0_0 a0_1 a0_2 a0_3 a0_4 a1_0 a1_1 a1_2 a1_3 a1_4 a2_0 a2_1 a2_2 a2_3 a2_4)) = some true := by rw [if_pos rfl] at H; exact H
                clear H
                have H := H1
                clear H1
                replace H := Option.bind_eq_some_iff.mp H
                obtain ⟨t433, A550, H⟩ := H
                replace H : (armadalaw07_VerLine.j1 kj16 t429 (!t433) a0_0 a0_1 a0_2 a0_3 a0_4 a1_0 a1_1 a1_2 a1_3 a1_4 a2_0 a2_1 a2_2 a2_3 a2_4) = some true := H
                have A55 := Aside0.mk A550
                clear A550
                have H' := Aside0.mk H
                clear H
                have hnb56 := NB425_426.out
                have hnc56 := NB426_425.out
                have hnb57 := NB425_427.out
                have hnc57 := NB427_425.out
                have hcz58_0 : wc.cell? ⟨gb425, 0, none⟩ = some (.int .i64 a0_0) := (blk_cell BK425.out 0).trans rfl
                have hcz58_1 : wc.cell? ⟨gb425, 1, none⟩ = some (.int .i64 a0_1) := (blk_cell BK425.out 1).trans rfl
                have hcz58_2 : wc.cell? ⟨gb425, 2, none⟩ = some (.int .i64 a0_2) := (blk_cell BK425.out 2).trans rfl
                have hcz58_3 : wc.cell? ⟨gb425, 3, none⟩ = some (.string a0_3) := (blk_cell BK425.out 3).trans rfl
                have hcz58_4 : wc.cell? ⟨gb425, 4, none⟩ = some (.string a0_4) := (blk_cell BK425.out 4).trans rfl
                have hfz58_0 := blk_frozen BK425.out 0
                have hfz58_1 := blk_frozen BK425.out 1
                have hfz58_2 := blk_frozen BK425.out 2
                have hfz58_3 := blk_frozen BK425.out 3
                have hfz58_4 := blk_frozen BK425.out 4
                go_wp2_with (first | ((with_reducible refine gate_callee (f := 13) rfl ?_); refine goesL_ (some 52) rfl rfl Tryd.func13 (by kernel_rfl) rfl #[.agg #[.int .i64 a0_0, .int .i64 a0_1, .int .i64 a0_2, .string a0_3, .string a0_4]] rfl (by (try simp only [List.map_toArray, List.map_cons, List.map_nil]); first | done | rfl | (simp only [List.length_drop, List.length_take]; rfl)) ?_; (with_reducible refine (ver_Check.calls a0_0 a0_1 a0_2 a0_3 a0_4 true _ A51.out).mono ?_); rintro e w59 ⟨rfl, hb⟩; refine ⟨_, rfl, ?_⟩; have n0_ := Aside0.mk (blk_below (g := gb425) (o := .cells #[.int .i64 a0_0, .int .i64 a0_1, .int .i64 a0_2, .string a0_3, .string a0_4] 23 (0, 0)) (by (with_reducible repeat (first | refine blk_drewN ?_ _ | refine blk_drew ?_ | refine blk_alloc ?_ _)); exact BK425.out) hb); have n1_ := Aside0.mk (blk_below (g := gb426) (o := .cells #[.int .i64 a1_0, .int .i64 a1_1, .int .i64 a1_2, .string a1_3, .string a1_4] 23 (0, 0)) (by (with_reducible repeat (first | refine blk_drewN ?_ _ | refine blk_drew ?_ | refine blk_alloc ?_ _)); exact BK426.out) hb); have n2_ := Aside0.mk (blk_below (g := gb427) (o := .cells #[.int .i64 a2_0, .int .i64 a2_1, .int .i64 a2_2, .string a2_3, .string a2_4] 23 (0, 0)) (by (with_reducible repeat (first | refine blk_drewN ?_ _ | refine blk_drew ?_ | refine blk_alloc ?_ _)); exact BK427.out) hb); have n3_ := Aside0.mk (below_step (by repeat (first | (with_reducible first | exact HB.out | apply below_alloc | apply pw_below_drewN | apply below_drew1 | refine below_set ?_ GE425.out | refine below_set ?_ GE426.out | refine below_set ?_ GE427.out) | exact HB.out)) hb); clear BK425; clear BK426; clear BK427; clear HB; have BK425 := n0_; have BK426 := n1_; have BK427 := n2_; have HB := n3_; clear n0_ n1_ n2_ n3_; (try clear hb); (try clear hb2); (try clear hk); (try clear hi); have hnb60 := NB426_427.out; have hnc60 := NB427_426.out; have hcz61_0 : w59.cell? ⟨gb426, 0, none⟩ = some (.int .i64 a1_0) := (blk_cell BK426.out 0).trans rfl; have hcz61_1 : w59.cell? ⟨gb426, 1, none⟩ = some (.int .i64 a1_1) := (blk_cell BK426.out 1).trans rfl; have hcz61_2 : w59.cell? ⟨gb426, 2, none⟩ = some (.int .i64 a1_2) := (blk_cell BK426.out 2).trans rfl; have hcz61_3 : w59.cell? ⟨gb426, 3, none⟩ = some (.string a1_3) := (blk_cell BK426.out 3).trans rfl; have hcz61_4 : w59.cell? ⟨gb426, 4, none⟩ = some (.string a1_4) := (blk_cell BK426.out 4).trans rfl; have hfz61_0 := blk_frozen BK426.out 0; have hfz61_1 := blk_frozen BK426.out 1; have hfz61_2 := blk_frozen BK426.out 2; have hfz61_3 := blk_frozen BK426.out 3; have hfz61_4 := blk_frozen BK426.out 4) | (go_at_call 13; (with_reducible refine (ver_Check.calls a1_0 a1_1 a1_2 a1_3 a1_4 true _ A53.out).mono ?_); rintro e w62 ⟨rfl, hb⟩; have n0_ := Aside0.mk (blk_below (g := gb425) (o := .cells #[.int .i64 a0_0, .int .i64 a0_1, .int .i64 a0_2, .string a0_3, .string a0_4] 23 (0, 0)) (by (with_reducible repeat (first | refine blk_drewN ?_ _ | refine blk_drew ?_ | refine blk_alloc ?_ _)); exact BK425.out) hb); have n1_ := Aside0.mk (blk_below (g := gb426) (o := .cells #[.int .i64 a1_0, .int .i64 a1_1, .int .i64 a1_2, .string a1_3, .string a1_4] 23 (0, 0)) (by (with_reducible repeat (first | refine blk_drewN ?_ _ | refine blk_drew ?_ | refine blk_alloc ?_ _)); exact BK426.out) hb); have n2_ := Aside0.mk (blk_below (g := gb427) (o := .cells #[.int .i64 a2_0, .int .i64 a2_1, .int .i64 a2_2, .string a2_3, .string a2_4] 23 (0, 0)) (by (with_reducible repeat (first | refine blk_drewN ?_ _ | refine blk_drew ?_ | refine blk_alloc ?_ _)); exact BK427.out) hb); have n3_ := Aside0.mk (below_step (by repeat (first | (with_reducible first | exact HB.out | apply below_alloc | apply pw_below_drewN | apply below_drew1 | refine below_set ?_ GE425.out | refine below_set ?_ GE426.out | refine below_set ?_ GE427.out) | exact HB.out)) hb); clear BK425; clear BK426; clear BK427; clear HB; have BK425 := n0_; have BK426 := n1_; have BK427 := n2_; have HB := n3_; clear n0_ n1_ n2_ n3_; (try clear hb); (try clear hb2); (try clear hk); (try clear hi); have hcz63_0 : w62.cell? ⟨gb427, 0, none⟩ = some (.int .i64 a2_0) := (blk_cell BK427.out 0).trans rfl; have hcz63_1 : w62.cell? ⟨gb427, 1, none⟩ = some (.int .i64 a2_1) := (blk_cell BK427.out 1).trans rfl; have hcz63_2 : w62.cell? ⟨gb427, 2, none⟩ = some (.int .i64 a2_2) := (blk_cell BK427.out 2).trans rfl; have hcz63_3 : w62.cell? ⟨gb427, 3, none⟩ = some (.string a2_3) := (blk_cell BK427.out 3).trans rfl; have hcz63_4 : w62.cell? ⟨gb427, 4, none⟩ = some (.string a2_4) := (blk_cell BK427.out 4).trans rfl; have hfz63_0 := blk_frozen BK427.out 0; have hfz63_1 := blk_frozen BK427.out 1; have hfz63_2 := blk_frozen BK427.out 2; have hfz63_3 := blk_frozen BK427.out 3; have hfz63_4 := blk_frozen BK427.out 4) | (go_at_call 13; (with_reducible refine (ver_Check.calls a2_0 a2_1 a2_2 a2_3 a2_4 t433 _ A55.out).mono ?_); rintro e w64 ⟨rfl, hb⟩; have n0_ := Aside0.mk (blk_below (g := gb425) (o := .cells #[.int .i64 a0_0, .int .i64 a0_1, .int .i64 a0_2, .string a0_3, .string a0_4] 23 (0, 0)) (by (with_reducible repeat (first | refine blk_drewN ?_ _ | refine blk_drew ?_ | refine blk_alloc ?_ _)); exact BK425.out) hb); have n1_ := Aside0.mk (blk_below (g := gb426) (o := .cells #[.int .i64 a1_0, .int .i64 a1_1, .int .i64 a1_2, .string a1_3, .string a1_4] 23 (0, 0)) (by (with_reducible repeat (first | refine blk_drewN ?_ _ | refine blk_drew ?_ | refine blk_alloc ?_ _)); exact BK426.out) hb); have n2_ := Aside0.mk (blk_below (g := gb427) (o := .cells #[.int .i64 a2_0, .int .i64 a2_1, .int .i64 a2_2, .string a2_3, .string a2_4] 23 (0, 0)) (by (with_reducible repeat (first | refine blk_drewN ?_ _ | refine blk_drew ?_ | refine blk_alloc ?_ _)); exact BK427.out) hb); have n3_ := Aside0.mk (below_step (by repeat (first | (with_reducible first | exact HB.out | apply below_alloc | apply pw_below_drewN | apply below_drew1 | refine below_set ?_ GE425.out | refine below_set ?_ GE426.out | refine below_set ?_ GE427.out) | exact HB.out)) hb); clear BK425; clear BK426; clear BK427; clear HB; have BK425 := n0_; have BK426 := n1_; have BK427 := n2_; have HB := n3_; clear n0_ n1_ n2_ n3_; (try clear hb); (try clear hb2); (try clear hk); (try clear hi)))
                go_meet
                case rel => exact ⟨_, (!t433), (by first | rfl | (simp; done) | (simp [*]; done)), H', ⟨by have := HJ16.out; first | omega | exact Nat.le_refl _⟩, ⟨by (with_reducible repeat (first | refine blk_drewN ?_ _ | refine blk_drew ?_ | refine blk_alloc ?_ _)); exact BK425.out⟩, ⟨by (with_reducible repeat (first | refine blk_drewN ?_ _ | refine blk_drew ?_ | refine blk_alloc ?_ _)); exact BK426.out⟩, ⟨by (with_reducible repeat (first | refine blk_drewN ?_ _ | refine blk_drew ?_ | refine blk_alloc ?_ _)); exact BK427.out⟩, ⟨by repeat (first | (with_reducible first | exact HB.out | apply below_alloc | apply pw_below_drewN | apply below_drew1 | refine below_set ?_ GE425.out | refine below_set ?_ GE426.out | refine below_set ?_ GE427.out) | exact HB.out)⟩⟩
              · replace c54 := Bool.eq_false_iff.mpr c54
                subst c54
                have H1 : (armadalaw07_VerLine.j1 kj16 t429 true a0_0 a0_1 a0_2 a0_3 a0_4 a1_0 a1_1 a1_2 a1_3 a1_4 a2_0 a2_1 a2_2 a2_3 a2_4) = some true := by rw [if_neg (show ¬ (false = true) by decide)] at H; exact H
                clear H
                have H := H1
                clear H1
                have H' := Aside0.mk H
                clear H
                have hnb65 := NB425_426.out
                have hnc65 := NB426_425.out
                have hnb66 := NB425_427.out
                have hnc66 := NB427_425.out
                have hcz67_0 : wc.cell? ⟨gb425, 0, none⟩ = some (.int .i64 a0_0) := (blk_cell BK425.out 0).trans rfl
                have hcz67_1 : wc.cell? ⟨gb425, 1, none⟩ = some (.int .i64 a0_1) := (blk_cell BK425.out 1).trans rfl
                have hcz67_2 : wc.cell? ⟨gb425, 2, none⟩ = some (.int .i64 a0_2) := (blk_cell BK425.out 2).trans rfl
                have hcz67_3 : wc.cell? ⟨gb425, 3, none⟩ = some (.string a0_3) := (blk_cell BK425.out 3).trans rfl
                have hcz67_4 : wc.cell? ⟨gb425, 4, none⟩ = some (.string a0_4) := (blk_cell BK425.out 4).trans rfl
                have hfz67_0 := blk_frozen BK425.out 0
                have hfz67_1 := blk_frozen BK425.out 1
                have hfz67_2 := blk_frozen BK425.out 2
                have hfz67_3 := blk_frozen BK425.out 3
                have hfz67_4 := blk_frozen BK425.out 4
                go_wp2_with (first | ((with_reducible refine gate_callee (f := 13) rfl ?_); refine goesL_ (some 52) rfl rfl Tryd.func13 (by kernel_rfl) rfl #[.agg #[.int .i64 a0_0, .int .i64 a0_1, .int .i64 a0_2, .string a0_3, .string a0_4]] rfl (by (try simp only [List.map_toArray, List.map_cons, List.map_nil]); first | done | rfl | (simp only [List.length_drop, List.length_take]; rfl)) ?_; (with_reducible refine (ver_Check.calls a0_0 a0_1 a0_2 a0_3 a0_4 true _ A51.out).mono ?_); rintro e w68 ⟨rfl, hb⟩; refine ⟨_, rfl, ?_⟩; have n0_ := Aside0.mk (blk_below (g := gb425) (o := .cells #[.int .i64 a0_0, .int .i64 a0_1, .int .i64 a0_2, .string a0_3, .string a0_4] 23 (0, 0)) (by (with_reducible repeat (first | refine blk_drewN ?_ _ | refine blk_drew ?_ | refine blk_alloc ?_ _)); exact BK425.out) hb); have n1_ := Aside0.mk (blk_below (g := gb426) (o := .cells #[.int .i64 a1_0, .int .i64 a1_1, .int .i64 a1_2, .string a1_3, .string a1_4] 23 (0, 0)) (by (with_reducible repeat (first | refine blk_drewN ?_ _ | refine blk_drew ?_ | refine blk_alloc ?_ _)); exact BK426.out) hb); have n2_ := Aside0.mk (blk_below (g := gb427) (o := .cells #[.int .i64 a2_0, .int .i64 a2_1, .int .i64 a2_2, .string a2_3, .string a2_4] 23 (0, 0)) (by (with_reducible repeat (first | refine blk_drewN ?_ _ | refine blk_drew ?_ | refine blk_alloc ?_ _)); exact BK427.out) hb); have n3_ := Aside0.mk (below_step (by repeat (first | (with_reducible first | exact HB.out | apply below_alloc | apply pw_below_drewN | apply below_drew1 | refine below_set ?_ GE425.out | refine below_set ?_ GE426.out | refine below_set ?_ GE427.out) | exact HB.out)) hb); clear BK425; clear BK426; clear BK427; clear HB; have BK425 := n0_; have BK426 := n1_; have BK427 := n2_; have HB := n3_; clear n0_ n1_ n2_ n3_; (try clear hb); (try clear hb2); (try clear hk); (try clear hi); have hnb69 := NB426_427.out; have hnc69 := NB427_426.out; have hcz70_0 : w68.cell? ⟨gb426, 0, none⟩ = some (.int .i64 a1_0) := (blk_cell BK426.out 0).trans rfl; have hcz70_1 : w68.cell? ⟨gb426, 1, none⟩ = some (.int .i64 a1_1) := (blk_cell BK426.out 1).trans rfl; have hcz70_2 : w68.cell? ⟨gb426, 2, none⟩ = some (.int .i64 a1_2) := (blk_cell BK426.out 2).trans rfl; have hcz70_3 : w68.cell? ⟨gb426, 3, none⟩ = some (.string a1_3) := (blk_cell BK426.out 3).trans rfl; have hcz70_4 : w68.cell? ⟨gb426, 4, none⟩ = some (.string a1_4) := (blk_cell BK426.out 4).trans rfl; have hfz70_0 := blk_frozen BK426.out 0; have hfz70_1 := blk_frozen BK426.out 1; have hfz70_2 := blk_frozen BK426.out 2; have hfz70_3 := blk_frozen BK426.out 3; have hfz70_4 := blk_frozen BK426.out 4) | (go_at_call 13; (with_reducible refine (ver_Check.calls a1_0 a1_1 a1_2 a1_3 a1_4 false _ A53.out).mono ?_); rintro e w71 ⟨rfl, hb⟩; have n0_ := Aside0.mk (blk_below (g := gb425) (o := .cells #[.int .i64 a0_0, .int .i64 a0_1, .int .i64 a0_2, .string a0_3, .string a0_4] 23 (0, 0)) (by (with_reducible repeat (first | refine blk_drewN ?_ _ | refine blk_drew ?_ | refine blk_alloc ?_ _)); exact BK425.out) hb); have n1_ := Aside0.mk (blk_below (g := gb426) (o := .cells #[.int .i64 a1_0, .int .i64 a1_1, .int .i64 a1_2, .string a1_3, .string a1_4] 23 (0, 0)) (by (with_reducible repeat (first | refine blk_drewN ?_ _ | refine blk_drew ?_ | refine blk_alloc ?_ _)); exact BK426.out) hb); have n2_ := Aside0.mk (blk_below (g := gb427) (o := .cells #[.int .i64 a2_0, .int .i64 a2_1, .int .i64 a2_2, .string a2_3, .string a2_4] 23 (0, 0)) (by (with_reducible repeat (first | refine blk_drewN ?_ _ | refine blk_drew ?_ | refine blk_alloc ?_ _)); exact BK427.out) hb); have n3_ := Aside0.mk (below_step (by repeat (first | (with_reducible first | exact HB.out | apply below_alloc | apply pw_below_drewN | apply below_drew1 | refine below_set ?_ GE425.out | refine below_set ?_ GE426.out | refine below_set ?_ GE427.out) | exact HB.out)) hb); clear BK425; clear BK426; clear BK427; clear HB; have BK425 := n0_; have BK426 := n1_; have BK427 := n2_; have HB := n3_; clear n0_ n1_ n2_ n3_; (try clear hb); (try clear hb2); (try clear hk); (try clear hi)))
                go_meet
                case rel => exact ⟨_, (true), (by first | rfl | (simp; done) | (simp [*]; done)), H', ⟨by have := HJ16.out; first | omega | exact Nat.le_refl _⟩, ⟨by (with_reducible repeat (first | refine blk_drewN ?_ _ | refine blk_drew ?_ | refine blk_alloc ?_ _)); exact BK425.out⟩, ⟨by (with_reducible repeat (first | refine blk_drewN ?_ _ | refine blk_drew ?_ | refine blk_alloc ?_ _)); exact BK426.out⟩, ⟨by (with_reducible repeat (first | refine blk_drewN ?_ _ | refine blk_drew ?_ | refine blk_alloc ?_ _)); exact BK427.out⟩, ⟨by repeat (first | (with_reducible first | exact HB.out | apply below_alloc | apply pw_below_drewN | apply below_drew1 | refine below_set ?_ GE425.out | refine below_set ?_ GE426.out | refine below_set ?_ GE427.out) | exact HB.out)⟩⟩
            · replace c52 := Bool.eq_false_iff.mpr c52
              subst c52
              have H1 : (armadalaw07_VerLine.j1 kj16 t429 true a0_0 a0_1 a0_2 a0_3 a0_4 a1_0 a1_1 a1_2 a1_3 a1_4 a2_0 a2_1 a2_2 a2_3 a2_4) = some true := by rw [if_neg (show ¬ (false = true) by decide)] at H; exact H
              clear H
              have H := H1
              clear H1
              have H' := Aside0.mk H
              clear H
              have hnb72 := NB425_426.out
              have hnc72 := NB426_425.out
              have hnb73 := NB425_427.out
              have hnc73 := NB427_425.out
              have hcz74_0 : wc.cell? ⟨gb425, 0, none⟩ = some (.int .i64 a0_0) := (blk_cell BK425.out 0).trans rfl
              have hcz74_1 : wc.cell? ⟨gb425, 1, none⟩ = some (.int .i64 a0_1) := (blk_cell BK425.out 1).trans rfl
              have hcz74_2 : wc.cell? ⟨gb425, 2, none⟩ = some (.int .i64 a0_2) := (blk_cell BK425.out 2).trans rfl
              have hcz74_3 : wc.cell? ⟨gb425, 3, none⟩ = some (.string a0_3) := (blk_cell BK425.out 3).trans rfl
              have hcz74_4 : wc.cell? ⟨gb425, 4, none⟩ = some (.string a0_4) := (blk_cell BK425.out 4).trans rfl
              have hfz74_0 := blk_frozen BK425.out 0
              have hfz74_1 := blk_frozen BK425.out 1
              have hfz74_2 := blk_frozen BK425.out 2
              have hfz74_3 := blk_frozen BK425.out 3
              have hfz74_4 := blk_frozen BK425.out 4
              go_wp2_with (first | ((with_reducible refine gate_callee (f := 13) rfl ?_); refine goesL_ (some 52) rfl rfl Tryd.func13 (by kernel_rfl) rfl #[.agg #[.int .i64 a0_0, .int .i64 a0_1, .int .i64 a0_2, .string a0_3, .string a0_4]] rfl (by (try simp only [List.map_toArray, List.map_cons, List.map_nil]); first | done | rfl | (simp only [List.length_drop, List.length_take]; rfl)) ?_; (with_reducible refine (ver_Check.calls a0_0 a0_1 a0_2 a0_3 a0_4 false _ A51.out).mono ?_); rintro e w75 ⟨rfl, hb⟩; refine ⟨_, rfl, ?_⟩; have n0_ := Aside0.mk (blk_below (g := gb425) (o := .cells #[.int .i64 a0_0, .int .i64 a0_1, .int .i64 a0_2, .string a0_3, .string a0_4] 23 (0, 0)) (by (with_reducible repeat (first | refine blk_drewN ?_ _ | refine blk_drew ?_ | refine blk_alloc ?_ _)); exact BK425.out) hb); have n1_ := Aside0.mk (blk_below (g := gb426) (o := .cells #[.int .i64 a1_0, .int .i64 a1_1, .int .i64 a1_2, .string a1_3, .string a1_4] 23 (0, 0)) (by (with_reducible repeat (first | refine blk_drewN ?_ _ | refine blk_drew ?_ | refine blk_alloc ?_ _)); exact BK426.out) hb); have n2_ := Aside0.mk (blk_below (g := gb427) (o := .cells #[.int .i64 a2_0, .int .i64 a2_1, .int .i64 a2_2, .string a2_3, .string a2_4] 23 (0, 0)) (by (with_reducible repeat (first | refine blk_drewN ?_ _ | refine blk_drew ?_ | refine blk_alloc ?_ _)); exact BK427.out) hb); have n3_ := Aside0.mk (below_step (by repeat (first | (with_reducible first | exact HB.out | apply below_alloc | apply pw_below_drewN | apply below_drew1 | refine below_set ?_ GE425.out | refine below_set ?_ GE426.out | refine below_set ?_ GE427.out) | exact HB.out)) hb); clear BK425; clear BK426; clear BK427; clear HB; have BK425 := n0_; have BK426 := n1_; have BK427 := n2_; have HB := n3_; clear n0_ n1_ n2_ n3_; (try clear hb); (try clear hb2); (try clear hk); (try clear hi)))
              go_meet
              case rel => exact ⟨_, (true), (by first | rfl | (simp; done) | (simp [*]; done)), H', ⟨by have := HJ16.out; first | omega | exact Nat.le_refl _⟩, ⟨by (with_reducible repeat (first | refine blk_drewN ?_ _ | refine blk_drew ?_ | refine blk_alloc ?_ _)); exact BK425.out⟩, ⟨by (with_reducible repeat (first | refine blk_drewN ?_ _ | refine blk_drew ?_ | refine blk_alloc ?_ _)); exact BK426.out⟩, ⟨by (with_reducible repeat (first | refine blk_drewN ?_ _ | refine blk_drew ?_ | refine blk_alloc ?_ _)); exact BK427.out⟩, ⟨by repeat (first | (with_reducible first | exact HB.out | apply below_alloc | apply pw_below_drewN | apply below_drew1 | refine below_set ?_ GE425.out | refine below_set ?_ GE426.out | refine below_set ?_ GE427.out) | exact HB.out)⟩⟩
          case rest =>
            clear HC50
            try clear c1
            try clear c2
            try clear p2
            try clear c3
            try clear c4
            try clear c4b0
            try clear c5
            try clear c6
            try clear p6
            try clear c7
            try clear c9
            try clear c10
            try clear c12
            try clear c13
            try clear c19
            try clear c21
            try clear c22
            try clear c24
            try clear c29
            try clear c29b0
            try clear c29b1
            try clear c30
            try clear c30b0
            try clear c31
            try clear c32
            try clear c34
            try clear c37
            try clear c38
            try clear c40
            try clear c43
            try clear c44
            try clear c46
            try clear c49
            try clear c52
            try clear c54
            try clear c56
            try clear c57
            try clear c60
            try clear p64
            try clear c65
            try clear c66
            try clear c69
            try clear c72
            try clear c73
            try clear hcz11_0
            try clear hcz11_1
            try clear hcz11_2
            try clear hcz11_3
            try clear hcz11_4
            try clear hcz13_0
            try clear hcz13_1
            try clear hcz13_2
            try clear hcz13_3
            try clear hcz13_4
            try clear hcz14_0
            try clear hcz14_1
            try clear hcz14_2
            try clear hcz14_3
            try clear hcz14_4
            try clear hcz23_0
            try clear hcz23_1
            try clear hcz23_2
            try clear hcz23_3
            try clear hcz23_4
            try clear hcz25_0
            try clear hcz25_1
            try clear hcz25_2
            try clear hcz25_3
            try clear hcz25_4
            try clear hcz26_0
            try clear hcz26_1
            try clear hcz26_2
            try clear hcz26_3
            try clear hcz26_4
            try clear hcz33_0
            try clear hcz33_1
            try clear hcz33_2
            try clear hcz33_3
            try clear hcz33_4
            try clear hcz35_0
            try clear hcz35_1
            try clear hcz35_2
            try clear hcz35_3
            try clear hcz35_4
            try clear hcz39_0
            try clear hcz39_1
            try clear hcz39_2
            try clear hcz39_3
            try clear hcz39_4
            try clear hcz41_0
            try clear hcz41_1
            try clear hcz41_2
            try clear hcz41_3
            try clear hcz41_4
            try clear hcz45_0
            try clear hcz45_1
            try clear hcz45_2
            try clear hcz45_3
            try clear hcz45_4
            try clear hcz47_0
            try clear hcz47_1
            try clear hcz47_2
            try clear hcz47_3
            try clear hcz47_4
            try clear hcz58_0
            try clear hcz58_1
            try clear hcz58_2
            try clear hcz58_3
            try clear hcz58_4
            try clear hcz61_0
            try clear hcz61_1
            try clear hcz61_2
            try clear hcz61_3
            try clear hcz61_4
            try clear hcz63_0
            try clear hcz63_1
            try clear hcz63_2
            try clear hcz63_3
            try clear hcz63_4
            try clear hcz67_0
            try clear hcz67_1
            try clear hcz67_2
            try clear hcz67_3
            try clear hcz67_4
            try clear hcz70_0
            try clear hcz70_1
            try clear hcz70_2
            try clear hcz70_3
            try clear hcz70_4
            try clear hcz74_0
            try clear hcz74_1
            try clear hcz74_2
            try clear hcz74_3
            try clear hcz74_4
            try clear hfz11_0
            try clear hfz11_1
            try clear hfz11_2
            try clear hfz11_3
            try clear hfz11_4
            try clear hfz13_0
            try clear hfz13_1
            try clear hfz13_2
            try clear hfz13_3
            try clear hfz13_4
            try clear hfz14_0
            try clear hfz14_1
            try clear hfz14_2
            try clear hfz14_3
            try clear hfz14_4
            try clear hfz23_0
            try clear hfz23_1
            try clear hfz23_2
            try clear hfz23_3
            try clear hfz23_4
            try clear hfz25_0
            try clear hfz25_1
            try clear hfz25_2
            try clear hfz25_3
            try clear hfz25_4
            try clear hfz26_0
            try clear hfz26_1
            try clear hfz26_2
            try clear hfz26_3
            try clear hfz26_4
            try clear hfz33_0
            try clear hfz33_1
            try clear hfz33_2
            try clear hfz33_3
            try clear hfz33_4
            try clear hfz35_0
            try clear hfz35_1
            try clear hfz35_2
            try clear hfz35_3
            try clear hfz35_4
            try clear hfz39_0
            try clear hfz39_1
            try clear hfz39_2
            try clear hfz39_3
            try clear hfz39_4
            try clear hfz41_0
            try clear hfz41_1
            try clear hfz41_2
            try clear hfz41_3
            try clear hfz41_4
            try clear hfz45_0
            try clear hfz45_1
            try clear hfz45_2
            try clear hfz45_3
            try clear hfz45_4
            try clear hfz47_0
            try clear hfz47_1
            try clear hfz47_2
            try clear hfz47_3
            try clear hfz47_4
            try clear hfz58_0
            try clear hfz58_1
            try clear hfz58_2
            try clear hfz58_3
            try clear hfz58_4
            try clear hfz61_0
            try clear hfz61_1
            try clear hfz61_2
            try clear hfz61_3
            try clear hfz61_4
            try clear hfz63_0
            try clear hfz63_1
            try clear hfz63_2
            try clear hfz63_3
            try clear hfz63_4
            try clear hfz67_0
            try clear hfz67_1
            try clear hfz67_2
            try clear hfz67_3
            try clear hfz67_4
            try clear hfz70_0
            try clear hfz70_1
            try clear hfz70_2
            try clear hfz70_3
            try clear hfz70_4
            try clear hfz74_0
            try clear hfz74_1
            try clear hfz74_2
            try clear hfz74_3
            try clear hfz74_4
            try clear p2
            try clear p6
            obtain ⟨kq, x63_49, rfl, HA, HJ49, BK425, BK426, BK427, HB⟩ := hcut
            cases kq with
            | zero => exact absurd HA.out (by simp [armadalaw07_VerLine.j1])
            | succ kj49 =>
              have H := HA.out
              clear HA
              simp only [armadalaw07_VerLine.j1] at H
              by_cases c76 : x63_49 = true
              · subst c76
                have H1 : ((armadalaw07_live.f kj49).bind fun t434 => (some t434)) = some true := by rw [if_pos rfl] at H; exact H
                clear H
                have H := H1
                clear H1
                replace H := Option.bind_eq_some_iff.mp H
                obtain ⟨t434, A770, H⟩ := H
                replace H : (some t434) = some true := H
                have A77 := Aside0.mk A770
                clear A770
                obtain rfl := Option.some.inj H
                go_wp2_with (first | ((with_reducible refine gate_callee (f := 10) rfl ?_); refine goesL_ (some 64) rfl rfl Tryd.func10 (by kernel_rfl) rfl #[] rfl (by (try simp only [List.map_toArray, List.map_cons, List.map_nil]); first | done | rfl | (simp only [List.length_drop, List.length_take]; rfl)) ?_; (with_reducible refine (armadalaw07_live.calls kj49  true _ A77.out (LW0 := LW.out.below (by repeat (first | (with_reducible first | exact HB.out | apply below_alloc | apply pw_below_drewN | apply below_drew1 | refine below_set ?_ GE425.out | refine below_set ?_ GE426.out | refine below_set ?_ GE427.out) | exact HB.out)))).mono ?_); rintro e w78 ⟨rfl, hb⟩; refine ⟨_, rfl, ?_⟩; have n0_ := Aside0.mk (blk_below (g := gb425) (o := .cells #[.int .i64 a0_0, .int .i64 a0_1, .int .i64 a0_2, .string a0_3, .string a0_4] 23 (0, 0)) (by (with_reducible repeat (first | refine blk_drewN ?_ _ | refine blk_drew ?_ | refine blk_alloc ?_ _)); exact BK425.out) hb); have n1_ := Aside0.mk (blk_below (g := gb426) (o := .cells #[.int .i64 a1_0, .int .i64 a1_1, .int .i64 a1_2, .string a1_3, .string a1_4] 23 (0, 0)) (by (with_reducible repeat (first | refine blk_drewN ?_ _ | refine blk_drew ?_ | refine blk_alloc ?_ _)); exact BK426.out) hb); have n2_ := Aside0.mk (blk_below (g := gb427) (o := .cells #[.int .i64 a2_0, .int .i64 a2_1, .int .i64 a2_2, .string a2_3, .string a2_4] 23 (0, 0)) (by (with_reducible repeat (first | refine blk_drewN ?_ _ | refine blk_drew ?_ | refine blk_alloc ?_ _)); exact BK427.out) hb); have n3_ := Aside0.mk (below_step (by repeat (first | (with_reducible first | exact HB.out | apply below_alloc | apply pw_below_drewN | apply below_drew1 | refine below_set ?_ GE425.out | refine below_set ?_ GE426.out | refine below_set ?_ GE427.out) | exact HB.out)) hb); clear BK425; clear BK426; clear BK427; clear HB; have BK425 := n0_; have BK426 := n1_; have BK427 := n2_; have HB := n3_; clear n0_ n1_ n2_ n3_; (try clear hb); (try clear hb2); (try clear hk); (try clear hi)))
                go_ret
                exact ⟨by first | rfl | (simp [errW_none, errW_some] <;> rfl) | (simp [*, errW_none, errW_some] <;> rfl), by repeat (first | (with_reducible first | exact HB.out | apply below_alloc | apply pw_below_drewN | apply below_drew1 | refine below_set ?_ GE425.out | refine below_set ?_ GE426.out | refine below_set ?_ GE427.out) | exact HB.out)⟩
              · replace c76 := Bool.eq_false_iff.mpr c76
                subst c76
                have H1 : (if t429 ≤ 0 then ((ver_Compare.f kj49 a1_0 a1_1 a1_2 a1_3 a1_4 a2_0 a2_1 a2_2 a2_3 a2_4).bind fun t435 => (if t435 ≤ 0 then ((ver_Compare.f kj49 a0_0 a0_1 a0_2 a0_3 a0_4 a2_0 a2_1 a2_2 a2_3 a2_4).bind fun t436 => (if t436 > 0 then (some false) else (if a0_0 = a1_0 then (if a0_1 = a1_1 then (if a0_2 = a1_2 then (if ((t429 == 0) == (a0_3.toList == a1_3.toList)) = true then ((armadalaw07_live.f kj49).bind fun t437 => (some t437)) else (some false)) else (if ((t429 == 0) == false) = true then ((armadalaw07_live.f kj49).bind fun t438 => (some t438)) else (some false))) else (if ((t429 == 0) == false) = true then ((armadalaw07_live.f kj49).bind fun t439 => (some t439)) else (some false))) else (if ((t429 == 0) == false) = true then ((armadalaw07_live.f kj49).bind fun t440 => (some t440)) else (some false))))) else (if a0_0 = a1_0 then (if a0_1 = a1_1 then (if a0_2 = a1_2 then (if ((t429 == 0) == (a0_3.toList == a1_3.toList)) = true then ((armadalaw07_live.f kj49).bind fun t441 => (some t441)) else (some false)) else (if ((t429 == 0) == false) = true then ((armadalaw07_live.f kj49).bind fun t442 => (some t442)) else (some false))) else (if ((t429 == 0) == false) = true then ((armadalaw07_live.f kj49).bind fun t443 => (some t443)) else (some false))) else (if ((t429 == 0) == false) = true then ((armadalaw07_live.f kj49).bind fun t444 => (some t444)) else (some false))))) else (if a0_0 = a1_0 then (if a0_1 = a1_1 then (if a0_2 = a1_2 then (if ((t429 == 0) == (a0_3.toList == a1_3.toList)) = true then ((armadalaw07_live.f kj49).bind fun t445 => (some t445)) else (some false)) else (if ((t429 == 0) == false) = true then ((armadalaw07_live.f kj49).bind fun t446 => (some t446)) else (some false))) else (if ((t429 == 0) == false) = true then ((armadalaw07_live.f kj49).bind fun t447 => (some t447)) else (some false))) else (if ((t429 == 0) == false) = true then ((armadalaw07_live.f kj49).bind fun t448 => (some t448)) else (some false)))) = some true := by rw [if_neg (show ¬ (false = true) by decide)] at H; exact H
                clear H
                have H := H1
                clear H1
                by_cases c79 : t429 ≤ 0
                · rw [if_pos c79] at H
                  have c79b0 : decide (t429 ≤ 0) = true := decide_eq_true c79
                  clear c79
                  replace H := Option.bind_eq_some_iff.mp H
                  obtain ⟨t435, A800, H⟩ := H
                  replace H : (if t435 ≤ 0 then ((ver_Compare.f kj49 a0_0 a0_1 a0_2 a0_3 a0_4 a2_0 a2_1 a2_2 a2_3 a2_4).bind fun t436 => (if t436 > 0 then (some false) else (if a0_0 = a1_0 then (if a0_1 = a1_1 then (if a0_2 = a1_2 then (if ((t429 == 0) == (a0_3.toList == a1_3.toList)) = true then ((armadalaw07_live.f kj49).bind fun t437 => (some t437)) else (some false)) else (if ((t429 == 0) == false) = true then ((armadalaw07_live.f kj49).bind fun t438 => (some t438)) else (some false))) else (if ((t429 == 0) == false) = true then ((armadalaw07_live.f kj49).bind fun t439 => (some t439)) else (some false))) else (if ((t429 == 0) == false) = true then ((armadalaw07_live.f kj49).bind fun t440 => (some t440)) else (some false))))) else (if a0_0 = a1_0 then (if a0_1 = a1_1 then (if a0_2 = a1_2 then (if ((t429 == 0) == (a0_3.toList == a1_3.toList)) = true then ((armadalaw07_live.f kj49).bind fun t441 => (some t441)) else (some false)) else (if ((t429 == 0) == false) = true then ((armadalaw07_live.f kj49).bind fun t442 => (some t442)) else (some false))) else (if ((t429 == 0) == false) = true then ((armadalaw07_live.f kj49).bind fun t443 => (some t443)) else (some false))) else (if ((t429 == 0) == false) = true then ((armadalaw07_live.f kj49).bind fun t444 => (some t444)) else (some false)))) = some true := H
                  have A80 := Aside0.mk A800
                  clear A800
                  by_cases c81 : t435 ≤ 0
                  · rw [if_pos c81] at H
                    have c81b0 : decide (t435 ≤ 0) = true := decide_eq_true c81
                    clear c81
                    replace H := Option.bind_eq_some_iff.mp H
                    obtain ⟨t436, A820, H⟩ := H
                    replace H : (if t436 > 0 then (some false) else (if a0_0 = a1_0 then (if a0_1 = a1_1 then (if a0_2 = a1_2 then (if ((t429 == 0) == (a0_3.toList == a1_3.toList)) = true then ((armadalaw07_live.f kj49).bind fun t437 => (some t437)) else (some false)) else (if ((t429 == 0) == false) = true then ((armadalaw07_live.f kj49).bind fun t438 => (some t438)) else (some false))) else (if ((t429 == 0) == false) = true then ((armadalaw07_live.f kj49).bind fun t439 => (some t439)) else (some false))) else (if ((t429 == 0) == false) = true then ((armadalaw07_live.f kj49).bind fun t440 => (some t440)) else (some false)))) = some true := H
                    have A82 := Aside0.mk A820
                    clear A820
                    by_cases c83 : t436 > 0
                    · rw [if_pos c83] at H
                      have c83b0 : decide (0 < t436) = true := decide_eq_true c83
                      clear c83
                      exact absurd H (by simp)
                    · rw [if_neg c83] at H
                      have c83b0 : decide (0 < t436) = false := decide_eq_false c83
                      clear c83
                      by_cases c84 : a0_0 = a1_0
                      · rw [if_pos c84] at H
                        have c84b0 : (a0_0 == a1_0) = true := beq_iff_eq.mpr c84
                        have c84b1 : (a0_0 != a1_0) = false := bne_eq_false_iff_eq.mpr c84
                        clear c84
                        by_cases c85 : a0_1 = a1_1
                        · rw [if_pos c85] at H
                          have c85b0 : (a0_1 == a1_1) = true := beq_iff_eq.mpr c85
                          have c85b1 : (a0_1 != a1_1) = false := bne_eq_false_iff_eq.mpr c85
                          clear c85
                          by_cases c86 : a0_2 = a1_2
                          · rw [if_pos c86] at H
                            have c86b0 : (a0_2 == a1_2) = true := beq_iff_eq.mpr c86
                            have c86b1 : (a0_2 != a1_2) = false := bne_eq_false_iff_eq.mpr c86
                            clear c86
                            by_cases c87 : ((t429 == 0) == (a0_3.toList == a1_3.toList)) = true
                            · rw [if_pos c87] at H
                              have c87b0 : ((t429 == 0) == (a0_3.toList == a1_3.toList)) = true := c87
                              (try (have c87b1 : decide ((t429 == 0) = (a0_3.toList == a1_3.toList)) = true := by simpa using c87))
                              (try (have c87b2 : ((t429 == 0) == (a0_3.toList == a1_3.toList)) = true := by simpa using c87))
                              clear c87
                              replace H := Option.bind_eq_some_iff.mp H
                              obtain ⟨t437, A880, H⟩ := H
                              replace H : (some t437) = some true := H
                              have A88 := Aside0.mk A880
                              clear A880
                              obtain rfl := Option.some.inj H
                              have hnb89 := NB426_425.out
                              have hnc89 := NB425_426.out
                              have hnb90 := NB426_427.out
                              have hnc90 := NB427_426.out
                              have hcz91_0 : wc.cell? ⟨gb426, 0, none⟩ = some (.int .i64 a1_0) := (blk_cell BK426.out 0).trans rfl
                              have hcz91_1 : wc.cell? ⟨gb426, 1, none⟩ = some (.int .i64 a1_1) := (blk_cell BK426.out 1).trans rfl
                              have hcz91_2 : wc.cell? ⟨gb426, 2, none⟩ = some (.int .i64 a1_2) := (blk_cell BK426.out 2).trans rfl
                              have hcz91_3 : wc.cell? ⟨gb426, 3, none⟩ = some (.string a1_3) := (blk_cell BK426.out 3).trans rfl
                              have hcz91_4 : wc.cell? ⟨gb426, 4, none⟩ = some (.string a1_4) := (blk_cell BK426.out 4).trans rfl
                              have hfz91_0 := blk_frozen BK426.out 0
                              have hfz91_1 := blk_frozen BK426.out 1
                              have hfz91_2 := blk_frozen BK426.out 2
                              have hfz91_3 := blk_frozen BK426.out 3
                              have hfz91_4 := blk_frozen BK426.out 4
                              have hnb92 := NB427_425.out
                              have hnc92 := NB425_427.out
                              have hcz93_0 : wc.cell? ⟨gb427, 0, none⟩ = some (.int .i64 a2_0) := (blk_cell BK427.out 0).trans rfl
                              have hcz93_1 : wc.cell? ⟨gb427, 1, none⟩ = some (.int .i64 a2_1) := (blk_cell BK427.out 1).trans rfl
                              have hcz93_2 : wc.cell? ⟨gb427, 2, none⟩ = some (.int .i64 a2_2) := (blk_cell BK427.out 2).trans rfl
                              have hcz93_3 : wc.cell? ⟨gb427, 3, none⟩ = some (.string a2_3) := (blk_cell BK427.out 3).trans rfl
                              have hcz93_4 : wc.cell? ⟨gb427, 4, none⟩ = some (.string a2_4) := (blk_cell BK427.out 4).trans rfl
                              have hfz93_0 := blk_frozen BK427.out 0
                              have hfz93_1 := blk_frozen BK427.out 1
                              have hfz93_2 := blk_frozen BK427.out 2
                              have hfz93_3 := blk_frozen BK427.out 3
                              have hfz93_4 := blk_frozen BK427.out 4
                              go_wp2_with (first | (go_at_call 19; (with_reducible refine (ver_Compare.calls kj49 a1_0 a1_1 a1_2 a1_3 a1_4 a2_0 a2_1 a2_2 a2_3 a2_4 t435 _ A80.out).mono ?_); rintro e w94 ⟨rfl, hb⟩; have n0_ := Aside0.mk (blk_below (g := gb425) (o := .cells #[.int .i64 a0_0, .int .i64 a0_1, .int .i64 a0_2, .string a0_3, .string a0_4] 23 (0, 0)) (by (with_reducible repeat (first | refine blk_drewN ?_ _ | refine blk_drew ?_ | refine blk_alloc ?_ _)); exact BK425.out) hb); have n1_ := Aside0.mk (blk_below (g := gb426) (o := .cells #[.int .i64 a1_0, .int .i64 a1_1, .int .i64 a1_2, .string a1_3, .string a1_4] 23 (0, 0)) (by (with_reducible repeat (first | refine blk_drewN ?_ _ | refine blk_drew ?_ | refine blk_alloc ?_ _)); exact BK426.out) hb); have n2_ := Aside0.mk (blk_below (g := gb427) (o := .cells #[.int .i64 a2_0, .int .i64 a2_1, .int .i64 a2_2, .string a2_3, .string a2_4] 23 (0, 0)) (by (with_reducible repeat (first | refine blk_drewN ?_ _ | refine blk_drew ?_ | refine blk_alloc ?_ _)); exact BK427.out) hb); have n3_ := Aside0.mk (below_step (by repeat (first | (with_reducible first | exact HB.out | apply below_alloc | apply pw_below_drewN | apply below_drew1 | refine below_set ?_ GE425.out | refine below_set ?_ GE426.out | refine below_set ?_ GE427.out) | exact HB.out)) hb); clear BK425; clear BK426; clear BK427; clear HB; have BK425 := n0_; have BK426 := n1_; have BK427 := n2_; have HB := n3_; clear n0_ n1_ n2_ n3_; (try clear hb); (try clear hb2); (try clear hk); (try clear hi); have hcz95_0 : w94.cell? ⟨gb425, 0, none⟩ = some (.int .i64 a0_0) := (blk_cell BK425.out 0).trans rfl; have hcz95_1 : w94.cell? ⟨gb425, 1, none⟩ = some (.int .i64 a0_1) := (blk_cell BK425.out 1).trans rfl; have hcz95_2 : w94.cell? ⟨gb425, 2, none⟩ = some (.int .i64 a0_2) := (blk_cell BK425.out 2).trans rfl; have hcz95_3 : w94.cell? ⟨gb425, 3, none⟩ = some (.string a0_3) := (blk_cell BK425.out 3).trans rfl; have hcz95_4 : w94.cell? ⟨gb425, 4, none⟩ = some (.string a0_4) := (blk_cell BK425.out 4).trans rfl; have hfz95_0 := blk_frozen BK425.out 0; have hfz95_1 := blk_frozen BK425.out 1; have hfz95_2 := blk_frozen BK425.out 2; have hfz95_3 := blk_frozen BK425.out 3; have hfz95_4 := blk_frozen BK425.out 4; have hcz96_0 : w94.cell? ⟨gb427, 0, none⟩ = some (.int .i64 a2_0) := (blk_cell BK427.out 0).trans rfl; have hcz96_1 : w94.cell? ⟨gb427, 1, none⟩ = some (.int .i64 a2_1) := (blk_cell BK427.out 1).trans rfl; have hcz96_2 : w94.cell? ⟨gb427, 2, none⟩ = some (.int .i64 a2_2) := (blk_cell BK427.out 2).trans rfl; have hcz96_3 : w94.cell? ⟨gb427, 3, none⟩ = some (.string a2_3) := (blk_cell BK427.out 3).trans rfl; have hcz96_4 : w94.cell? ⟨gb427, 4, none⟩ = some (.string a2_4) := (blk_cell BK427.out 4).trans rfl; have hfz96_0 := blk_frozen BK427.out 0; have hfz96_1 := blk_frozen BK427.out 1; have hfz96_2 := blk_frozen BK427.out 2; have hfz96_3 := blk_frozen BK427.out 3; have hfz96_4 := blk_frozen BK427.out 4) | (go_at_call 19; (with_reducible refine (ver_Compare.calls kj49 a0_0 a0_1 a0_2 a0_3 a0_4 a2_0 a2_1 a2_2 a2_3 a2_4 t436 _ A82.out).mono ?_); rintro e w97 ⟨rfl, hb⟩; have n0_ := Aside0.mk (blk_below (g := gb425) (o := .cells #[.int .i64 a0_0, .int .i64 a0_1, .int .i64 a0_2, .string a0_3, .string a0_4] 23 (0, 0)) (by (with_reducible repeat (first | refine blk_drewN ?_ _ | refine blk_drew ?_ | refine blk_alloc ?_ _)); exact BK425.out) hb); have n1_ := Aside0.mk (blk_below (g := gb426) (o := .cells #[.int .i64 a1_0, .int .i64 a1_1, .int .i64 a1_2, .string a1_3, .string a1_4] 23 (0, 0)) (by (with_reducible repeat (first | refine blk_drewN ?_ _ | refine blk_drew ?_ | refine blk_alloc ?_ _)); exact BK426.out) hb); have n2_ := Aside0.mk (blk_below (g := gb427) (o := .cells #[.int .i64 a2_0, .int .i64 a2_1, .int .i64 a2_2, .string a2_3, .string a2_4] 23 (0, 0)) (by (with_reducible repeat (first | refine blk_drewN ?_ _ | refine blk_drew ?_ | refine blk_alloc ?_ _)); exact BK427.out) hb); have n3_ := Aside0.mk (below_step (by repeat (first | (with_reducible first | exact HB.out | apply below_alloc | apply pw_below_drewN | apply below_drew1 | refine below_set ?_ GE425.out | refine below_set ?_ GE426.out | refine below_set ?_ GE427.out) | exact HB.out)) hb); clear BK425; clear BK426; clear BK427; clear HB; have BK425 := n0_; have BK426 := n1_; have BK427 := n2_; have HB := n3_; clear n0_ n1_ n2_ n3_; (try clear hb); (try clear hb2); (try clear hk); (try clear hi); have hcz98_0 : w97.cell? ⟨gb425, 0, none⟩ = some (.int .i64 a0_0) := (blk_cell BK425.out 0).trans rfl; have hcz98_1 : w97.cell? ⟨gb425, 1, none⟩ = some (.int .i64 a0_1) := (blk_cell BK425.out 1).trans rfl; have hcz98_2 : w97.cell? ⟨gb425, 2, none⟩ = some (.int .i64 a0_2) := (blk_cell BK425.out 2).trans rfl; have hcz98_3 : w97.cell? ⟨gb425, 3, none⟩ = some (.string a0_3) := (blk_cell BK425.out 3).trans rfl; have hcz98_4 : w97.cell? ⟨gb425, 4, none⟩ = some (.string a0_4) := (blk_cell BK425.out 4).trans rfl; have hfz98_0 := blk_frozen BK425.out 0; have hfz98_1 := blk_frozen BK425.out 1; have hfz98_2 := blk_frozen BK425.out 2; have hfz98_3 := blk_frozen BK425.out 3; have hfz98_4 := blk_frozen BK425.out 4; have hcz99_0 : w97.cell? ⟨gb426, 0, none⟩ = some (.int .i64 a1_0) := (blk_cell BK426.out 0).trans rfl; have hcz99_1 : w97.cell? ⟨gb426, 1, none⟩ = some (.int .i64 a1_1) := (blk_cell BK426.out 1).trans rfl; have hcz99_2 : w97.cell? ⟨gb426, 2, none⟩ = some (.int .i64 a1_2) := (blk_cell BK426.out 2).trans rfl; have hcz99_3 : w97.cell? ⟨gb426, 3, none⟩ = some (.string a1_3) := (blk_cell BK426.out 3).trans rfl; have hcz99_4 : w97.cell? ⟨gb426, 4, none⟩ = some (.string a1_4) := (blk_cell BK426.out 4).trans rfl; have hfz99_0 := blk_frozen BK426.out 0; have hfz99_1 := blk_frozen BK426.out 1; have hfz99_2 := blk_frozen BK426.out 2; have hfz99_3 := blk_frozen BK426.out 3; have hfz99_4 := blk_frozen BK426.out 4) | (go_at_call 10; (with_reducible refine (armadalaw07_live.calls kj49  true _ A88.out (LW0 := LW.out.below (by repeat (first | (with_reducible first | exact HB.out | apply below_alloc | apply pw_below_drewN | apply below_drew1 | refine below_set ?_ GE425.out | refine below_set ?_ GE426.out | refine below_set ?_ GE427.out) | exact HB.out)))).mono ?_); rintro e w100 ⟨rfl, hb⟩; have n0_ := Aside0.mk (blk_below (g := gb425) (o := .cells #[.int .i64 a0_0, .int .i64 a0_1, .int .i64 a0_2, .string a0_3, .string a0_4] 23 (0, 0)) (by (with_reducible repeat (first | refine blk_drewN ?_ _ | refine blk_drew ?_ | refine blk_alloc ?_ _)); exact BK425.out) hb); have n1_ := Aside0.mk (blk_below (g := gb426) (o := .cells #[.int .i64 a1_0, .int .i64 a1_1, .int .i64 a1_2, .string a1_3, .string a1_4] 23 (0, 0)) (by (with_reducible repeat (first | refine blk_drewN ?_ _ | refine blk_drew ?_ | refine blk_alloc ?_ _)); exact BK426.out) hb); have n2_ := Aside0.mk (blk_below (g := gb427) (o := .cells #[.int .i64 a2_0, .int .i64 a2_1, .int .i64 a2_2, .string a2_3, .string a2_4] 23 (0, 0)) (by (with_reducible repeat (first | refine blk_drewN ?_ _ | refine blk_drew ?_ | refine blk_alloc ?_ _)); exact BK427.out) hb); have n3_ := Aside0.mk (below_step (by repeat (first | (with_reducible first | exact HB.out | apply below_alloc | apply pw_below_drewN | apply below_drew1 | refine below_set ?_ GE425.out | refine below_set ?_ GE426.out | refine below_set ?_ GE427.out) | exact HB.out)) hb); clear BK425; clear BK426; clear BK427; clear HB; have BK425 := n0_; have BK426 := n1_; have BK427 := n2_; have HB := n3_; clear n0_ n1_ n2_ n3_; (try clear hb); (try clear hb2); (try clear hk); (try clear hi)))
                              go_ret
                              exact ⟨by first | rfl | (simp [errW_none, errW_some] <;> rfl) | (simp [*, errW_none, errW_some] <;> rfl), by repeat (first | (with_reducible first | exact HB.out | apply below_alloc | apply pw_below_drewN | apply below_drew1 | refine below_set ?_ GE425.out | refine below_set ?_ GE426.out | refine below_set ?_ GE427.out) | exact HB.out)⟩
                            · rw [if_neg c87] at H
                              have c87b0 : ((t429 == 0) == (a0_3.toList == a1_3.toList)) = false := by simpa using c87
                              (try (have c87b1 : decide ((t429 == 0) = (a0_3.toList == a1_3.toList)) = false := by simpa using c87))
                              (try (have c87b2 : ((t429 == 0) == (a0_3.toList == a1_3.toList)) = false := by simpa using c87))
                              (try (have c87b3 : ¬ ((t429 == 0) = (a0_3.toList == a1_3.toList)) := by simpa using c87))
                              clear c87
                              exact absurd H (by simp)
                          · rw [if_neg c86] at H
                            have c86b0 : (a0_2 == a1_2) = false := beq_eq_false_iff_ne.mpr c86
                            have c86b1 : (a0_2 != a1_2) = true := bne_iff_ne.mpr c86
                            by_cases c101 : ((t429 == 0) == false) = true
                            · rw [if_pos c101] at H
                              have c101b0 : ((t429 == 0) == false) = true := c101
                              (try (have c101b1 : decide ((t429 == 0) = false) = true := by simpa using c101))
                              (try (have c101b2 : ((t429 == 0) == false) = true := by simpa using c101))
                              clear c101
                              replace H := Option.bind_eq_some_iff.mp H
                              obtain ⟨t438, A1020, H⟩ := H
                              replace H : (some t438) = some true := H
                              have A102 := Aside0.mk A1020
                              clear A1020
                              obtain rfl := Option.some.inj H
                              have hnb103 := NB426_425.out
                              have hnc103 := NB425_426.out
                              have hnb104 := NB426_427.out
                              have hnc104 := NB427_426.out
                              have hcz105_0 : wc.cell? ⟨gb426, 0, none⟩ = some (.int .i64 a1_0) := (blk_cell BK426.out 0).trans rfl
                              have hcz105_1 : wc.cell? ⟨gb426, 1, none⟩ = some (.int .i64 a1_1) := (blk_cell BK426.out 1).trans rfl
                              have hcz105_2 : wc.cell? ⟨gb426, 2, none⟩ = some (.int .i64 a1_2) := (blk_cell BK426.out 2).trans rfl
                              have hcz105_3 : wc.cell? ⟨gb426, 3, none⟩ = some (.string a1_3) := (blk_cell BK426.out 3).trans rfl
                              have hcz105_4 : wc.cell? ⟨gb426, 4, none⟩ = some (.string a1_4) := (blk_cell BK426.out 4).trans rfl
                              have hfz105_0 := blk_frozen BK426.out 0
                              have hfz105_1 := blk_frozen BK426.out 1
                              have hfz105_2 := blk_frozen BK426.out 2
                              have hfz105_3 := blk_frozen BK426.out 3
                              have hfz105_4 := blk_frozen BK426.out 4
                              have hnb106 := NB427_425.out
                              have hnc106 := NB425_427.out
                              have hcz107_0 : wc.cell? ⟨gb427, 0, none⟩ = some (.int .i64 a2_0) := (blk_cell BK427.out 0).trans rfl
                              have hcz107_1 : wc.cell? ⟨gb427, 1, none⟩ = some (.int .i64 a2_1) := (blk_cell BK427.out 1).trans rfl
                              have hcz107_2 : wc.cell? ⟨gb427, 2, none⟩ = some (.int .i64 a2_2) := (blk_cell BK427.out 2).trans rfl
                              have hcz107_3 : wc.cell? ⟨gb427, 3, none⟩ = some (.string a2_3) := (blk_cell BK427.out 3).trans rfl
                              have hcz107_4 : wc.cell? ⟨gb427, 4, none⟩ = some (.string a2_4) := (blk_cell BK427.out 4).trans rfl
                              have hfz107_0 := blk_frozen BK427.out 0
                              have hfz107_1 := blk_frozen BK427.out 1
                              have hfz107_2 := blk_frozen BK427.out 2
                              have hfz107_3 := blk_frozen BK427.out 3
                              have hfz107_4 := blk_frozen BK427.out 4
                              go_wp2_with (first | (go_at_call 19; (with_reducible refine (ver_Compare.calls kj49 a1_0 a1_1 a1_2 a1_3 a1_4 a2_0 a2_1 a2_2 a2_3 a2_4 t435 _ A80.out).mono ?_); rintro e w108 ⟨rfl, hb⟩; have n0_ := Aside0.mk (blk_below (g := gb425) (o := .cells #[.int .i64 a0_0, .int .i64 a0_1, .int .i64 a0_2, .string a0_3, .string a0_4] 23 (0, 0)) (by (with_reducible repeat (first | refine blk_drewN ?_ _ | refine blk_drew ?_ | refine blk_alloc ?_ _)); exact BK425.out) hb); have n1_ := Aside0.mk (blk_below (g := gb426) (o := .cells #[.int .i64 a1_0, .int .i64 a1_1, .int .i64 a1_2, .string a1_3, .string a1_4] 23 (0, 0)) (by (with_reducible repeat (first | refine blk_drewN ?_ _ | refine blk_drew ?_ | refine blk_alloc ?_ _)); exact BK426.out) hb); have n2_ := Aside0.mk (blk_below (g := gb427) (o := .cells #[.int .i64 a2_0, .int .i64 a2_1, .int .i64 a2_2, .string a2_3, .string a2_4] 23 (0, 0)) (by (with_reducible repeat (first | refine blk_drewN ?_ _ | refine blk_drew ?_ | refine blk_alloc ?_ _)); exact BK427.out) hb); have n3_ := Aside0.mk (below_step (by repeat (first | (with_reducible first | exact HB.out | apply below_alloc | apply pw_below_drewN | apply below_drew1 | refine below_set ?_ GE425.out | refine below_set ?_ GE426.out | refine below_set ?_ GE427.out) | exact HB.out)) hb); clear BK425; clear BK426; clear BK427; clear HB; have BK425 := n0_; have BK426 := n1_; have BK427 := n2_; have HB := n3_; clear n0_ n1_ n2_ n3_; (try clear hb); (try clear hb2); (try clear hk); (try clear hi); have hcz109_0 : w108.cell? ⟨gb425, 0, none⟩ = some (.int .i64 a0_0) := (blk_cell BK425.out 0).trans rfl; have hcz109_1 : w108.cell? ⟨gb425, 1, none⟩ = some (.int .i64 a0_1) := (blk_cell BK425.out 1).trans rfl; have hcz109_2 : w108.cell? ⟨gb425, 2, none⟩ = some (.int .i64 a0_2) := (blk_cell BK425.out 2).trans rfl; have hcz109_3 : w108.cell? ⟨gb425, 3, none⟩ = some (.string a0_3) := (blk_cell BK425.out 3).trans rfl; have hcz109_4 : w108.cell? ⟨gb425, 4, none⟩ = some (.string a0_4) := (blk_cell BK425.out 4).trans rfl; have hfz109_0 := blk_frozen BK425.out 0; have hfz109_1 := blk_frozen BK425.out 1; have hfz109_2 := blk_frozen BK425.out 2; have hfz109_3 := blk_frozen BK425.out 3; have hfz109_4 := blk_frozen BK425.out 4; have hcz110_0 : w108.cell? ⟨gb427, 0, none⟩ = some (.int .i64 a2_0) := (blk_cell BK427.out 0).trans rfl; have hcz110_1 : w108.cell? ⟨gb427, 1, none⟩ = some (.int .i64 a2_1) := (blk_cell BK427.out 1).trans rfl; have hcz110_2 : w108.cell? ⟨gb427, 2, none⟩ = some (.int .i64 a2_2) := (blk_cell BK427.out 2).trans rfl; have hcz110_3 : w108.cell? ⟨gb427, 3, none⟩ = some (.string a2_3) := (blk_cell BK427.out 3).trans rfl; have hcz110_4 : w108.cell? ⟨gb427, 4, none⟩ = some (.string a2_4) := (blk_cell BK427.out 4).trans rfl; have hfz110_0 := blk_frozen BK427.out 0; have hfz110_1 := blk_frozen BK427.out 1; have hfz110_2 := blk_frozen BK427.out 2; have hfz110_3 := blk_frozen BK427.out 3; have hfz110_4 := blk_frozen BK427.out 4) | (go_at_call 19; (with_reducible refine (ver_Compare.calls kj49 a0_0 a0_1 a0_2 a0_3 a0_4 a2_0 a2_1 a2_2 a2_3 a2_4 t436 _ A82.out).mono ?_); rintro e w111 ⟨rfl, hb⟩; have n0_ := Aside0.mk (blk_below (g := gb425) (o := .cells #[.int .i64 a0_0, .int .i64 a0_1, .int .i64 a0_2, .string a0_3, .string a0_4] 23 (0, 0)) (by (with_reducible repeat (first | refine blk_drewN ?_ _ | refine blk_drew ?_ | refine blk_alloc ?_ _)); exact BK425.out) hb); have n1_ := Aside0.mk (blk_below (g := gb426) (o := .cells #[.int .i64 a1_0, .int .i64 a1_1, .int .i64 a1_2, .string a1_3, .string a1_4] 23 (0, 0)) (by (with_reducible repeat (first | refine blk_drewN ?_ _ | refine blk_drew ?_ | refine blk_alloc ?_ _)); exact BK426.out) hb); have n2_ := Aside0.mk (blk_below (g := gb427) (o := .cells #[.int .i64 a2_0, .int .i64 a2_1, .int .i64 a2_2, .string a2_3, .string a2_4] 23 (0, 0)) (by (with_reducible repeat (first | refine blk_drewN ?_ _ | refine blk_drew ?_ | refine blk_alloc ?_ _)); exact BK427.out) hb); have n3_ := Aside0.mk (below_step (by repeat (first | (with_reducible first | exact HB.out | apply below_alloc | apply pw_below_drewN | apply below_drew1 | refine below_set ?_ GE425.out | refine below_set ?_ GE426.out | refine below_set ?_ GE427.out) | exact HB.out)) hb); clear BK425; clear BK426; clear BK427; clear HB; have BK425 := n0_; have BK426 := n1_; have BK427 := n2_; have HB := n3_; clear n0_ n1_ n2_ n3_; (try clear hb); (try clear hb2); (try clear hk); (try clear hi); have hcz112_0 : w111.cell? ⟨gb425, 0, none⟩ = some (.int .i64 a0_0) := (blk_cell BK425.out 0).trans rfl; have hcz112_1 : w111.cell? ⟨gb425, 1, none⟩ = some (.int .i64 a0_1) := (blk_cell BK425.out 1).trans rfl; have hcz112_2 : w111.cell? ⟨gb425, 2, none⟩ = some (.int .i64 a0_2) := (blk_cell BK425.out 2).trans rfl; have hcz112_3 : w111.cell? ⟨gb425, 3, none⟩ = some (.string a0_3) := (blk_cell BK425.out 3).trans rfl; have hcz112_4 : w111.cell? ⟨gb425, 4, none⟩ = some (.string a0_4) := (blk_cell BK425.out 4).trans rfl; have hfz112_0 := blk_frozen BK425.out 0; have hfz112_1 := blk_frozen BK425.out 1; have hfz112_2 := blk_frozen BK425.out 2; have hfz112_3 := blk_frozen BK425.out 3; have hfz112_4 := blk_frozen BK425.out 4; have hcz113_0 : w111.cell? ⟨gb426, 0, none⟩ = some (.int .i64 a1_0) := (blk_cell BK426.out 0).trans rfl; have hcz113_1 : w111.cell? ⟨gb426, 1, none⟩ = some (.int .i64 a1_1) := (blk_cell BK426.out 1).trans rfl; have hcz113_2 : w111.cell? ⟨gb426, 2, none⟩ = some (.int .i64 a1_2) := (blk_cell BK426.out 2).trans rfl; have hcz113_3 : w111.cell? ⟨gb426, 3, none⟩ = some (.string a1_3) := (blk_cell BK426.out 3).trans rfl; have hcz113_4 : w111.cell? ⟨gb426, 4, none⟩ = some (.string a1_4) := (blk_cell BK426.out 4).trans rfl; have hfz113_0 := blk_frozen BK426.out 0; have hfz113_1 := blk_frozen BK426.out 1; have hfz113_2 := blk_frozen BK426.out 2; have hfz113_3 := blk_frozen BK426.out 3; have hfz113_4 := blk_frozen BK426.out 4) | (go_at_call 10; (with_reducible refine (armadalaw07_live.calls kj49  true _ A102.out (LW0 := LW.out.below (by repeat (first | (with_reducible first | exact HB.out | apply below_alloc | apply pw_below_drewN | apply below_drew1 | refine below_set ?_ GE425.out | refine below_set ?_ GE426.out | refine below_set ?_ GE427.out) | exact HB.out)))).mono ?_); rintro e w114 ⟨rfl, hb⟩; have n0_ := Aside0.mk (blk_below (g := gb425) (o := .cells #[.int .i64 a0_0, .int .i64 a0_1, .int .i64 a0_2, .string a0_3, .string a0_4] 23 (0, 0)) (by (with_reducible repeat (first | refine blk_drewN ?_ _ | refine blk_drew ?_ | refine blk_alloc ?_ _)); exact BK425.out) hb); have n1_ := Aside0.mk (blk_below (g := gb426) (o := .cells #[.int .i64 a1_0, .int .i64 a1_1, .int .i64 a1_2, .string a1_3, .string a1_4] 23 (0, 0)) (by (with_reducible repeat (first | refine blk_drewN ?_ _ | refine blk_drew ?_ | refine blk_alloc ?_ _)); exact BK426.out) hb); have n2_ := Aside0.mk (blk_below (g := gb427) (o := .cells #[.int .i64 a2_0, .int .i64 a2_1, .int .i64 a2_2, .string a2_3, .string a2_4] 23 (0, 0)) (by (with_reducible repeat (first | refine blk_drewN ?_ _ | refine blk_drew ?_ | refine blk_alloc ?_ _)); exact BK427.out) hb); have n3_ := Aside0.mk (below_step (by repeat (first | (with_reducible first | exact HB.out | apply below_alloc | apply pw_below_drewN | apply below_drew1 | refine below_set ?_ GE425.out | refine below_set ?_ GE426.out | refine below_set ?_ GE427.out) | exact HB.out)) hb); clear BK425; clear BK426; clear BK427; clear HB; have BK425 := n0_; have BK426 := n1_; have BK427 := n2_; have HB := n3_; clear n0_ n1_ n2_ n3_; (try clear hb); (try clear hb2); (try clear hk); (try clear hi)))
                              go_ret
                              exact ⟨by first | rfl | (simp [errW_none, errW_some] <;> rfl) | (simp [*, errW_none, errW_some] <;> rfl), by repeat (first | (with_reducible first | exact HB.out | apply below_alloc | apply pw_below_drewN | apply below_drew1 | refine below_set ?_ GE425.out | refine below_set ?_ GE426.out | refine below_set ?_ GE427.out) | exact HB.out)⟩
                            · rw [if_neg c101] at H
                              have c101b0 : ((t429 == 0) == false) = false := by simpa using c101
                              (try (have c101b1 : decide ((t429 == 0) = false) = false := by simpa using c101))
                              (try (have c101b2 : ((t429 == 0) == false) = false := by simpa using c101))
                              (try (have c101b3 : ¬ ((t429 == 0) = false) := by simpa using c101))
                              clear c101
                              exact absurd H (by simp)
                        · rw [if_neg c85] at H
                          have c85b0 : (a0_1 == a1_1) = false := beq_eq_false_iff_ne.mpr c85
                          have c85b1 : (a0_1 != a1_1) = true := bne_iff_ne.mpr c85
                          by_cases c115 : ((t429 == 0) == false) = true
                          · rw [if_pos c115] at H
                            have c115b0 : ((t429 == 0) == false) = true := c115
                            (try (have c115b1 : decide ((t429 == 0) = false) = true := by simpa using c115))
                            (try (have c115b2 : ((t429 == 0) == false) = true := by simpa using c115))
                            clear c115
                            replace H := Option.bind_eq_some_iff.mp H
                            obtain ⟨t439, A1160, H⟩ := H
                            replace H : (some t439) = some true := H
                            have A116 := Aside0.mk A1160
                            clear A1160
                            obtain rfl := Option.some.inj H
                            have hnb117 := NB426_425.out
                            have hnc117 := NB425_426.out
                            have hnb118 := NB426_427.out
                            have hnc118 := NB427_426.out
                            have hcz119_0 : wc.cell? ⟨gb426, 0, none⟩ = some (.int .i64 a1_0) := (blk_cell BK426.out 0).trans rfl
                            have hcz119_1 : wc.cell? ⟨gb426, 1, none⟩ = some (.int .i64 a1_1) := (blk_cell BK426.out 1).trans rfl
                            have hcz119_2 : wc.cell? ⟨gb426, 2, none⟩ = some (.int .i64 a1_2) := (blk_cell BK426.out 2).trans rfl
                            have hcz119_3 : wc.cell? ⟨gb426, 3, none⟩ = some (.string a1_3) := (blk_cell BK426.out 3).trans rfl
                            have hcz119_4 : wc.cell? ⟨gb426, 4, none⟩ = some (.string a1_4) := (blk_cell BK426.out 4).trans rfl
                            have hfz119_0 := blk_frozen BK426.out 0
                            have hfz119_1 := blk_frozen BK426.out 1
                            have hfz119_2 := blk_frozen BK426.out 2
                            have hfz119_3 := blk_frozen BK426.out 3
                            have hfz119_4 := blk_frozen BK426.out 4
                            have hnb120 := NB427_425.out
                            have hnc120 := NB425_427.out
                            have hcz121_0 : wc.cell? ⟨gb427, 0, none⟩ = some (.int .i64 a2_0) := (blk_cell BK427.out 0).trans rfl
                            have hcz121_1 : wc.cell? ⟨gb427, 1, none⟩ = some (.int .i64 a2_1) := (blk_cell BK427.out 1).trans rfl
                            have hcz121_2 : wc.cell? ⟨gb427, 2, none⟩ = some (.int .i64 a2_2) := (blk_cell BK427.out 2).trans rfl
                            have hcz121_3 : wc.cell? ⟨gb427, 3, none⟩ = some (.string a2_3) := (blk_cell BK427.out 3).trans rfl
                            have hcz121_4 : wc.cell? ⟨gb427, 4, none⟩ = some (.string a2_4) := (blk_cell BK427.out 4).trans rfl
                            have hfz121_0 := blk_frozen BK427.out 0
                            have hfz121_1 := blk_frozen BK427.out 1
                            have hfz121_2 := blk_frozen BK427.out 2
                            have hfz121_3 := blk_frozen BK427.out 3
                            have hfz121_4 := blk_frozen BK427.out 4
                            go_wp2_with (first | (go_at_call 19; (with_reducible refine (ver_Compare.calls kj49 a1_0 a1_1 a1_2 a1_3 a1_4 a2_0 a2_1 a2_2 a2_3 a2_4 t435 _ A80.out).mono ?_); rintro e w122 ⟨rfl, hb⟩; have n0_ := Aside0.mk (blk_below (g := gb425) (o := .cells #[.int .i64 a0_0, .int .i64 a0_1, .int .i64 a0_2, .string a0_3, .string a0_4] 23 (0, 0)) (by (with_reducible repeat (first | refine blk_drewN ?_ _ | refine blk_drew ?_ | refine blk_alloc ?_ _)); exact BK425.out) hb); have n1_ := Aside0.mk (blk_below (g := gb426) (o := .cells #[.int .i64 a1_0, .int .i64 a1_1, .int .i64 a1_2, .string a1_3, .string a1_4] 23 (0, 0)) (by (with_reducible repeat (first | refine blk_drewN ?_ _ | refine blk_drew ?_ | refine blk_alloc ?_ _)); exact BK426.out) hb); have n2_ := Aside0.mk (blk_below (g := gb427) (o := .cells #[.int .i64 a2_0, .int .i64 a2_1, .int .i64 a2_2, .string a2_3, .string a2_4] 23 (0, 0)) (by (with_reducible repeat (first | refine blk_drewN ?_ _ | refine blk_drew ?_ | refine blk_alloc ?_ _)); exact BK427.out) hb); have n3_ := Aside0.mk (below_step (by repeat (first | (with_reducible first | exact HB.out | apply below_alloc | apply pw_below_drewN | apply below_drew1 | refine below_set ?_ GE425.out | refine below_set ?_ GE426.out | refine below_set ?_ GE427.out) | exact HB.out)) hb); clear BK425; clear BK426; clear BK427; clear HB; have BK425 := n0_; have BK426 := n1_; have BK427 := n2_; have HB := n3_; clear n0_ n1_ n2_ n3_; (try clear hb); (try clear hb2); (try clear hk); (try clear hi); have hcz123_0 : w122.cell? ⟨gb425, 0, none⟩ = some (.int .i64 a0_0) := (blk_cell BK425.out 0).trans rfl; have hcz123_1 : w122.cell? ⟨gb425, 1, none⟩ = some (.int .i64 a0_1) := (blk_cell BK425.out 1).trans rfl; have hcz123_2 : w122.cell? ⟨gb425, 2, none⟩ = some (.int .i64 a0_2) := (blk_cell BK425.out 2).trans rfl; have hcz123_3 : w122.cell? ⟨gb425, 3, none⟩ = some (.string a0_3) := (blk_cell BK425.out 3).trans rfl; have hcz123_4 : w122.cell? ⟨gb425, 4, none⟩ = some (.string a0_4) := (blk_cell BK425.out 4).trans rfl; have hfz123_0 := blk_frozen BK425.out 0; have hfz123_1 := blk_frozen BK425.out 1; have hfz123_2 := blk_frozen BK425.out 2; have hfz123_3 := blk_frozen BK425.out 3; have hfz123_4 := blk_frozen BK425.out 4; have hcz124_0 : w122.cell? ⟨gb427, 0, none⟩ = some (.int .i64 a2_0) := (blk_cell BK427.out 0).trans rfl; have hcz124_1 : w122.cell? ⟨gb427, 1, none⟩ = some (.int .i64 a2_1) := (blk_cell BK427.out 1).trans rfl; have hcz124_2 : w122.cell? ⟨gb427, 2, none⟩ = some (.int .i64 a2_2) := (blk_cell BK427.out 2).trans rfl; have hcz124_3 : w122.cell? ⟨gb427, 3, none⟩ = some (.string a2_3) := (blk_cell BK427.out 3).trans rfl; have hcz124_4 : w122.cell? ⟨gb427, 4, none⟩ = some (.string a2_4) := (blk_cell BK427.out 4).trans rfl; have hfz124_0 := blk_frozen BK427.out 0; have hfz124_1 := blk_frozen BK427.out 1; have hfz124_2 := blk_frozen BK427.out 2; have hfz124_3 := blk_frozen BK427.out 3; have hfz124_4 := blk_frozen BK427.out 4) | (go_at_call 19; (with_reducible refine (ver_Compare.calls kj49 a0_0 a0_1 a0_2 a0_3 a0_4 a2_0 a2_1 a2_2 a2_3 a2_4 t436 _ A82.out).mono ?_); rintro e w125 ⟨rfl, hb⟩; have n0_ := Aside0.mk (blk_below (g := gb425) (o := .cells #[.int .i64 a0_0, .int .i64 a0_1, .int .i64 a0_2, .string a0_3, .string a0_4] 23 (0, 0)) (by (with_reducible repeat (first | refine blk_drewN ?_ _ | refine blk_drew ?_ | refine blk_alloc ?_ _)); exact BK425.out) hb); have n1_ := Aside0.mk (blk_below (g := gb426) (o := .cells #[.int .i64 a1_0, .int .i64 a1_1, .int .i64 a1_2, .string a1_3, .string a1_4] 23 (0, 0)) (by (with_reducible repeat (first | refine blk_drewN ?_ _ | refine blk_drew ?_ | refine blk_alloc ?_ _)); exact BK426.out) hb); have n2_ := Aside0.mk (blk_below (g := gb427) (o := .cells #[.int .i64 a2_0, .int .i64 a2_1, .int .i64 a2_2, .string a2_3, .string a2_4] 23 (0, 0)) (by (with_reducible repeat (first | refine blk_drewN ?_ _ | refine blk_drew ?_ | refine blk_alloc ?_ _)); exact BK427.out) hb); have n3_ := Aside0.mk (below_step (by repeat (first | (with_reducible first | exact HB.out | apply below_alloc | apply pw_below_drewN | apply below_drew1 | refine below_set ?_ GE425.out | refine below_set ?_ GE426.out | refine below_set ?_ GE427.out) | exact HB.out)) hb); clear BK425; clear BK426; clear BK427; clear HB; have BK425 := n0_; have BK426 := n1_; have BK427 := n2_; have HB := n3_; clear n0_ n1_ n2_ n3_; (try clear hb); (try clear hb2); (try clear hk); (try clear hi); have hcz126_0 : w125.cell? ⟨gb425, 0, none⟩ = some (.int .i64 a0_0) := (blk_cell BK425.out 0).trans rfl; have hcz126_1 : w125.cell? ⟨gb425, 1, none⟩ = some (.int .i64 a0_1) := (blk_cell BK425.out 1).trans rfl; have hcz126_2 : w125.cell? ⟨gb425, 2, none⟩ = some (.int .i64 a0_2) := (blk_cell BK425.out 2).trans rfl; have hcz126_3 : w125.cell? ⟨gb425, 3, none⟩ = some (.string a0_3) := (blk_cell BK425.out 3).trans rfl; have hcz126_4 : w125.cell? ⟨gb425, 4, none⟩ = some (.string a0_4) := (blk_cell BK425.out 4).trans rfl; have hfz126_0 := blk_frozen BK425.out 0; have hfz126_1 := blk_frozen BK425.out 1; have hfz126_2 := blk_frozen BK425.out 2; have hfz126_3 := blk_frozen BK425.out 3; have hfz126_4 := blk_frozen BK425.out 4; have hcz127_0 : w125.cell? ⟨gb426, 0, none⟩ = some (.int .i64 a1_0) := (blk_cell BK426.out 0).trans rfl; have hcz127_1 : w125.cell? ⟨gb426, 1, none⟩ = some (.int .i64 a1_1) := (blk_cell BK426.out 1).trans rfl; have hcz127_2 : w125.cell? ⟨gb426, 2, none⟩ = some (.int .i64 a1_2) := (blk_cell BK426.out 2).trans rfl; have hcz127_3 : w125.cell? ⟨gb426, 3, none⟩ = some (.string a1_3) := (blk_cell BK426.out 3).trans rfl; have hcz127_4 : w125.cell? ⟨gb426, 4, none⟩ = some (.string a1_4) := (blk_cell BK426.out 4).trans rfl; have hfz127_0 := blk_frozen BK426.out 0; have hfz127_1 := blk_frozen BK426.out 1; have hfz127_2 := blk_frozen BK426.out 2; have hfz127_3 := blk_frozen BK426.out 3; have hfz127_4 := blk_frozen BK426.out 4) | (go_at_call 10; (with_reducible refine (armadalaw07_live.calls kj49  true _ A116.out (LW0 := LW.out.below (by repeat (first | (with_reducible first | exact HB.out | apply below_alloc | apply pw_below_drewN | apply below_drew1 | refine below_set ?_ GE425.out | refine below_set ?_ GE426.out | refine below_set ?_ GE427.out) | exact HB.out)))).mono ?_); rintro e w128 ⟨rfl, hb⟩; have n0_ := Aside0.mk (blk_below (g := gb425) (o := .cells #[.int .i64 a0_0, .int .i64 a0_1, .int .i64 a0_2, .string a0_3, .string a0_4] 23 (0, 0)) (by (with_reducible repeat (first | refine blk_drewN ?_ _ | refine blk_drew ?_ | refine blk_alloc ?_ _)); exact BK425.out) hb); have n1_ := Aside0.mk (blk_below (g := gb426) (o := .cells #[.int .i64 a1_0, .int .i64 a1_1, .int .i64 a1_2, .string a1_3, .string a1_4] 23 (0, 0)) (by (with_reducible repeat (first | refine blk_drewN ?_ _ | refine blk_drew ?_ | refine blk_alloc ?_ _)); exact BK426.out) hb); have n2_ := Aside0.mk (blk_below (g := gb427) (o := .cells #[.int .i64 a2_0, .int .i64 a2_1, .int .i64 a2_2, .string a2_3, .string a2_4] 23 (0, 0)) (by (with_reducible repeat (first | refine blk_drewN ?_ _ | refine blk_drew ?_ | refine blk_alloc ?_ _)); exact BK427.out) hb); have n3_ := Aside0.mk (below_step (by repeat (first | (with_reducible first | exact HB.out | apply below_alloc | apply pw_below_drewN | apply below_drew1 | refine below_set ?_ GE425.out | refine below_set ?_ GE426.out | refine below_set ?_ GE427.out) | exact HB.out)) hb); clear BK425; clear BK426; clear BK427; clear HB; have BK425 := n0_; have BK426 := n1_; have BK427 := n2_; have HB := n3_; clear n0_ n1_ n2_ n3_; (try clear hb); (try clear hb2); (try clear hk); (try clear hi)))
                            go_ret
                            exact ⟨by first | rfl | (simp [errW_none, errW_some] <;> rfl) | (simp [*, errW_none, errW_some] <;> rfl), by repeat (first | (with_reducible first | exact HB.out | apply below_alloc | apply pw_below_drewN | apply below_drew1 | refine below_set ?_ GE425.out | refine below_set ?_ GE426.out | refine below_set ?_ GE427.out) | exact HB.out)⟩
                          · rw [if_neg c115] at H
                            have c115b0 : ((t429 == 0) == false) = false := by simpa using c115
                            (try (have c115b1 : decide ((t429 == 0) = false) = false := by simpa using c115))
                            (try (have c115b2 : ((t429 == 0) == false) = false := by simpa using c115))
                            (try (have c115b3 : ¬ ((t429 == 0) = false) := by simpa using c115))
                            clear c115
                            exact absurd H (by simp)
                      · rw [if_neg c84] at H
                        have c84b0 : (a0_0 == a1_0) = false := beq_eq_false_iff_ne.mpr c84
                        have c84b1 : (a0_0 != a1_0) = true := bne_iff_ne.mpr c84
                        by_cases c129 : ((t429 == 0) == false) = true
                        · rw [if_pos c129] at H
                          have c129b0 : ((t429 == 0) == false) = true := c129
                          (try (have c129b1 : decide ((t429 == 0) = false) = true := by simpa using c129))
                          (try (have c129b2 : ((t429 == 0) == false) = true := by simpa using c129))
                          clear c129
                          replace H := Option.bind_eq_some_iff.mp H
                          obtain ⟨t440, A1300, H⟩ := H
                          replace H : (some t440) = some true := H
                          have A130 := Aside0.mk A1300
                          clear A1300
                          obtain rfl := Option.some.inj H
                          have hnb131 := NB426_425.out
                          have hnc131 := NB425_426.out
                          have hnb132 := NB426_427.out
                          have hnc132 := NB427_426.out
                          have hcz133_0 : wc.cell? ⟨gb426, 0, none⟩ = some (.int .i64 a1_0) := (blk_cell BK426.out 0).trans rfl
                          have hcz133_1 : wc.cell? ⟨gb426, 1, none⟩ = some (.int .i64 a1_1) := (blk_cell BK426.out 1).trans rfl
                          have hcz133_2 : wc.cell? ⟨gb426, 2, none⟩ = some (.int .i64 a1_2) := (blk_cell BK426.out 2).trans rfl
                          have hcz133_3 : wc.cell? ⟨gb426, 3, none⟩ = some (.string a1_3) := (blk_cell BK426.out 3).trans rfl
                          have hcz133_4 : wc.cell? ⟨gb426, 4, none⟩ = some (.string a1_4) := (blk_cell BK426.out 4).trans rfl
                          have hfz133_0 := blk_frozen BK426.out 0
                          have hfz133_1 := blk_frozen BK426.out 1
                          have hfz133_2 := blk_frozen BK426.out 2
                          have hfz133_3 := blk_frozen BK426.out 3
                          have hfz133_4 := blk_frozen BK426.out 4
                          have hnb134 := NB427_425.out
                          have hnc134 := NB425_427.out
                          have hcz135_0 : wc.cell? ⟨gb427, 0, none⟩ = some (.int .i64 a2_0) := (blk_cell BK427.out 0).trans rfl
                          have hcz135_1 : wc.cell? ⟨gb427, 1, none⟩ = some (.int .i64 a2_1) := (blk_cell BK427.out 1).trans rfl
                          have hcz135_2 : wc.cell? ⟨gb427, 2, none⟩ = some (.int .i64 a2_2) := (blk_cell BK427.out 2).trans rfl
                          have hcz135_3 : wc.cell? ⟨gb427, 3, none⟩ = some (.string a2_3) := (blk_cell BK427.out 3).trans rfl
                          have hcz135_4 : wc.cell? ⟨gb427, 4, none⟩ = some (.string a2_4) := (blk_cell BK427.out 4).trans rfl
                          have hfz135_0 := blk_frozen BK427.out 0
                          have hfz135_1 := blk_frozen BK427.out 1
                          have hfz135_2 := blk_frozen BK427.out 2
                          have hfz135_3 := blk_frozen BK427.out 3
                          have hfz135_4 := blk_frozen BK427.out 4
                          go_wp2_with (first | (go_at_call 19; (with_reducible refine (ver_Compare.calls kj49 a1_0 a1_1 a1_2 a1_3 a1_4 a2_0 a2_1 a2_2 a2_3 a2_4 t435 _ A80.out).mono ?_); rintro e w136 ⟨rfl, hb⟩; have n0_ := Aside0.mk (blk_below (g := gb425) (o := .cells #[.int .i64 a0_0, .int .i64 a0_1, .int .i64 a0_2, .string a0_3, .string a0_4] 23 (0, 0)) (by (with_reducible repeat (first | refine blk_drewN ?_ _ | refine blk_drew ?_ | refine blk_alloc ?_ _)); exact BK425.out) hb); have n1_ := Aside0.mk (blk_below (g := gb426) (o := .cells #[.int .i64 a1_0, .int .i64 a1_1, .int .i64 a1_2, .string a1_3, .string a1_4] 23 (0, 0)) (by (with_reducible repeat (first | refine blk_drewN ?_ _ | refine blk_drew ?_ | refine blk_alloc ?_ _)); exact BK426.out) hb); have n2_ := Aside0.mk (blk_below (g := gb427) (o := .cells #[.int .i64 a2_0, .int .i64 a2_1, .int .i64 a2_2, .string a2_3, .string a2_4] 23 (0, 0)) (by (with_reducible repeat (first | refine blk_drewN ?_ _ | refine blk_drew ?_ | refine blk_alloc ?_ _)); exact BK427.out) hb); have n3_ := Aside0.mk (below_step (by repeat (first | (with_reducible first | exact HB.out | apply below_alloc | apply pw_below_drewN | apply below_drew1 | refine below_set ?_ GE425.out | refine below_set ?_ GE426.out | refine below_set ?_ GE427.out) | exact HB.out)) hb); clear BK425; clear BK426; clear BK427; clear HB; have BK425 := n0_; have BK426 := n1_; have BK427 := n2_; have HB := n3_; clear n0_ n1_ n2_ n3_; (try clear hb); (try clear hb2); (try clear hk); (try clear hi); have hcz137_0 : w136.cell? ⟨gb425, 0, none⟩ = some (.int .i64 a0_0) := (blk_cell BK425.out 0).trans rfl; have hcz137_1 : w136.cell? ⟨gb425, 1, none⟩ = some (.int .i64 a0_1) := (blk_cell BK425.out 1).trans rfl; have hcz137_2 : w136.cell? ⟨gb425, 2, none⟩ = some (.int .i64 a0_2) := (blk_cell BK425.out 2).trans rfl; have hcz137_3 : w136.cell? ⟨gb425, 3, none⟩ = some (.string a0_3) := (blk_cell BK425.out 3).trans rfl; have hcz137_4 : w136.cell? ⟨gb425, 4, none⟩ = some (.string a0_4) := (blk_cell BK425.out 4).trans rfl; have hfz137_0 := blk_frozen BK425.out 0; have hfz137_1 := blk_frozen BK425.out 1; have hfz137_2 := blk_frozen BK425.out 2; have hfz137_3 := blk_frozen BK425.out 3; have hfz137_4 := blk_frozen BK425.out 4; have hcz138_0 : w136.cell? ⟨gb427, 0, none⟩ = some (.int .i64 a2_0) := (blk_cell BK427.out 0).trans rfl; have hcz138_1 : w136.cell? ⟨gb427, 1, none⟩ = some (.int .i64 a2_1) := (blk_cell BK427.out 1).trans rfl; have hcz138_2 : w136.cell? ⟨gb427, 2, none⟩ = some (.int .i64 a2_2) := (blk_cell BK427.out 2).trans rfl; have hcz138_3 : w136.cell? ⟨gb427, 3, none⟩ = some (.string a2_3) := (blk_cell BK427.out 3).trans rfl; have hcz138_4 : w136.cell? ⟨gb427, 4, none⟩ = some (.string a2_4) := (blk_cell BK427.out 4).trans rfl; have hfz138_0 := blk_frozen BK427.out 0; have hfz138_1 := blk_frozen BK427.out 1; have hfz138_2 := blk_frozen BK427.out 2; have hfz138_3 := blk_frozen BK427.out 3; have hfz138_4 := blk_frozen BK427.out 4) | (go_at_call 19; (with_reducible refine (ver_Compare.calls kj49 a0_0 a0_1 a0_2 a0_3 a0_4 a2_0 a2_1 a2_2 a2_3 a2_4 t436 _ A82.out).mono ?_); rintro e w139 ⟨rfl, hb⟩; have n0_ := Aside0.mk (blk_below (g := gb425) (o := .cells #[.int .i64 a0_0, .int .i64 a0_1, .int .i64 a0_2, .string a0_3, .string a0_4] 23 (0, 0)) (by (with_reducible repeat (first | refine blk_drewN ?_ _ | refine blk_drew ?_ | refine blk_alloc ?_ _)); exact BK425.out) hb); have n1_ := Aside0.mk (blk_below (g := gb426) (o := .cells #[.int .i64 a1_0, .int .i64 a1_1, .int .i64 a1_2, .string a1_3, .string a1_4] 23 (0, 0)) (by (with_reducible repeat (first | refine blk_drewN ?_ _ | refine blk_drew ?_ | refine blk_alloc ?_ _)); exact BK426.out) hb); have n2_ := Aside0.mk (blk_below (g := gb427) (o := .cells #[.int .i64 a2_0, .int .i64 a2_1, .int .i64 a2_2, .string a2_3, .string a2_4] 23 (0, 0)) (by (with_reducible repeat (first | refine blk_drewN ?_ _ | refine blk_drew ?_ | refine blk_alloc ?_ _)); exact BK427.out) hb); have n3_ := Aside0.mk (below_step (by repeat (first | (with_reducible first | exact HB.out | apply below_alloc | apply pw_below_drewN | apply below_drew1 | refine below_set ?_ GE425.out | refine below_set ?_ GE426.out | refine below_set ?_ GE427.out) | exact HB.out)) hb); clear BK425; clear BK426; clear BK427; clear HB; have BK425 := n0_; have BK426 := n1_; have BK427 := n2_; have HB := n3_; clear n0_ n1_ n2_ n3_; (try clear hb); (try clear hb2); (try clear hk); (try clear hi); have hcz140_0 : w139.cell? ⟨gb425, 0, none⟩ = some (.int .i64 a0_0) := (blk_cell BK425.out 0).trans rfl; have hcz140_1 : w139.cell? ⟨gb425, 1, none⟩ = some (.int .i64 a0_1) := (blk_cell BK425.out 1).trans rfl; have hcz140_2 : w139.cell? ⟨gb425, 2, none⟩ = some (.int .i64 a0_2) := (blk_cell BK425.out 2).trans rfl; have hcz140_3 : w139.cell? ⟨gb425, 3, none⟩ = some (.string a0_3) := (blk_cell BK425.out 3).trans rfl; have hcz140_4 : w139.cell? ⟨gb425, 4, none⟩ = some (.string a0_4) := (blk_cell BK425.out 4).trans rfl; have hfz140_0 := blk_frozen BK425.out 0; have hfz140_1 := blk_frozen BK425.out 1; have hfz140_2 := blk_frozen BK425.out 2; have hfz140_3 := blk_frozen BK425.out 3; have hfz140_4 := blk_frozen BK425.out 4; have hcz141_0 : w139.cell? ⟨gb426, 0, none⟩ = some (.int .i64 a1_0) := (blk_cell BK426.out 0).trans rfl; have hcz141_1 : w139.cell? ⟨gb426, 1, none⟩ = some (.int .i64 a1_1) := (blk_cell BK426.out 1).trans rfl; have hcz141_2 : w139.cell? ⟨gb426, 2, none⟩ = some (.int .i64 a1_2) := (blk_cell BK426.out 2).trans rfl; have hcz141_3 : w139.cell? ⟨gb426, 3, none⟩ = some (.string a1_3) := (blk_cell BK426.out 3).trans rfl; have hcz141_4 : w139.cell? ⟨gb426, 4, none⟩ = some (.string a1_4) := (blk_cell BK426.out 4).trans rfl; have hfz141_0 := blk_frozen BK426.out 0; have hfz141_1 := blk_frozen BK426.out 1; have hfz141_2 := blk_frozen BK426.out 2; have hfz141_3 := blk_frozen BK426.out 3; have hfz141_4 := blk_frozen BK426.out 4) | (go_at_call 10; (with_reducible refine (armadalaw07_live.calls kj49  true _ A130.out (LW0 := LW.out.below (by repeat (first | (with_reducible first | exact HB.out | apply below_alloc | apply pw_below_drewN | apply below_drew1 | refine below_set ?_ GE425.out | refine below_set ?_ GE426.out | refine below_set ?_ GE427.out) | exact HB.out)))).mono ?_); rintro e w142 ⟨rfl, hb⟩; have n0_ := Aside0.mk (blk_below (g := gb425) (o := .cells #[.int .i64 a0_0, .int .i64 a0_1, .int .i64 a0_2, .string a0_3, .string a0_4] 23 (0, 0)) (by (with_reducible repeat (first | refine blk_drewN ?_ _ | refine blk_drew ?_ | refine blk_alloc ?_ _)); exact BK425.out) hb); have n1_ := Aside0.mk (blk_below (g := gb426) (o := .cells #[.int .i64 a1_0, .int .i64 a1_1, .int .i64 a1_2, .string a1_3, .string a1_4] 23 (0, 0)) (by (with_reducible repeat (first | refine blk_drewN ?_ _ | refine blk_drew ?_ | refine blk_alloc ?_ _)); exact BK426.out) hb); have n2_ := Aside0.mk (blk_below (g := gb427) (o := .cells #[.int .i64 a2_0, .int .i64 a2_1, .int .i64 a2_2, .string a2_3, .string a2_4] 23 (0, 0)) (by (with_reducible repeat (first | refine blk_drewN ?_ _ | refine blk_drew ?_ | refine blk_alloc ?_ _)); exact BK427.out) hb); have n3_ := Aside0.mk (below_step (by repeat (first | (with_reducible first | exact HB.out | apply below_alloc | apply pw_below_drewN | apply below_drew1 | refine below_set ?_ GE425.out | refine below_set ?_ GE426.out | refine below_set ?_ GE427.out) | exact HB.out)) hb); clear BK425; clear BK426; clear BK427; clear HB; have BK425 := n0_; have BK426 := n1_; have BK427 := n2_; have HB := n3_; clear n0_ n1_ n2_ n3_; (try clear hb); (try clear hb2); (try clear hk); (try clear hi)))
                          go_ret
                          exact ⟨by first | rfl | (simp [errW_none, errW_some] <;> rfl) | (simp [*, errW_none, errW_some] <;> rfl), by repeat (first | (with_reducible first | exact HB.out | apply below_alloc | apply pw_below_drewN | apply below_drew1 | refine below_set ?_ GE425.out | refine below_set ?_ GE426.out | refine below_set ?_ GE427.out) | exact HB.out)⟩
                        · rw [if_neg c129] at H
                          have c129b0 : ((t429 == 0) == false) = false := by simpa using c129
                          (try (have c129b1 : decide ((t429 == 0) = false) = false := by simpa using c129))
                          (try (have c129b2 : ((t429 == 0) == false) = false := by simpa using c129))
                          (try (have c129b3 : ¬ ((t429 == 0) = false) := by simpa using c129))
                          clear c129
                          exact absurd H (by simp)
                  · rw [if_neg c81] at H
                    have c81b0 : decide (t435 ≤ 0) = false := decide_eq_false c81
                    clear c81
                    by_cases c143 : a0_0 = a1_0
                    · rw [if_pos c143] at H
                      have c143b0 : (a0_0 == a1_0) = true := beq_iff_eq.mpr c143
                      have c143b1 : (a0_0 != a1_0) = false := bne_eq_false_iff_eq.mpr c143
                      clear c143
                      by_cases c144 : a0_1 = a1_1
                      · rw [if_pos c144] at H
                        have c144b0 : (a0_1 == a1_1) = true := beq_iff_eq.mpr c144
                        have c144b1 : (a0_1 != a1_1) = false := bne_eq_false_iff_eq.mpr c144
                        clear c144
                        by_cases c145 : a0_2 = a1_2
                        · rw [if_pos c145] at H
                          have c145b0 : (a0_2 == a1_2) = true := beq_iff_eq.mpr c145
                          have c145b1 : (a0_2 != a1_2) = false := bne_eq_false_iff_eq.mpr c145
                          clear c145
                          by_cases c146 : ((t429 == 0) == (a0_3.toList == a1_3.toList)) = true
                          · rw [if_pos c146] at H
                            have c146b0 : ((t429 == 0) == (a0_3.toList == a1_3.toList)) = true := c146
                            (try (have c146b1 : decide ((t429 == 0) = (a0_3.toList == a1_3.toList)) = true := by simpa using c146))
                            (try (have c146b2 : ((t429 == 0) == (a0_3.toList == a1_3.toList)) = true := by simpa using c146))
                            clear c146
                            replace H := Option.bind_eq_some_iff.mp H
                            obtain ⟨t441, A1470, H⟩ := H
                            replace H : (some t441) = some true := H
                            have A147 := Aside0.mk A1470
                            clear A1470
                            obtain rfl := Option.some.inj H
                            have hnb148 := NB426_425.out
                            have hnc148 := NB425_426.out
                            have hnb149 := NB426_427.out
                            have hnc149 := NB427_426.out
                            have hcz150_0 : wc.cell? ⟨gb426, 0, none⟩ = some (.int .i64 a1_0) := (blk_cell BK426.out 0).trans rfl
                            have hcz150_1 : wc.cell? ⟨gb426, 1, none⟩ = some (.int .i64 a1_1) := (blk_cell BK426.out 1).trans rfl
                            have hcz150_2 : wc.cell? ⟨gb426, 2, none⟩ = some (.int .i64 a1_2) := (blk_cell BK426.out 2).trans rfl
                            have hcz150_3 : wc.cell? ⟨gb426, 3, none⟩ = some (.string a1_3) := (blk_cell BK426.out 3).trans rfl
                            have hcz150_4 : wc.cell? ⟨gb426, 4, none⟩ = some (.string a1_4) := (blk_cell BK426.out 4).trans rfl
                            have hfz150_0 := blk_frozen BK426.out 0
                            have hfz150_1 := blk_frozen BK426.out 1
                            have hfz150_2 := blk_frozen BK426.out 2
                            have hfz150_3 := blk_frozen BK426.out 3
                            have hfz150_4 := blk_frozen BK426.out 4
                            have hnb151 := NB427_425.out
                            have hnc151 := NB425_427.out
                            have hcz152_0 : wc.cell? ⟨gb427, 0, none⟩ = some (.int .i64 a2_0) := (blk_cell BK427.out 0).trans rfl
                            have hcz152_1 : wc.cell? ⟨gb427, 1, none⟩ = some (.int .i64 a2_1) := (blk_cell BK427.out 1).trans rfl
                            have hcz152_2 : wc.cell? ⟨gb427, 2, none⟩ = some (.int .i64 a2_2) := (blk_cell BK427.out 2).trans rfl
                            have hcz152_3 : wc.cell? ⟨gb427, 3, none⟩ = some (.string a2_3) := (blk_cell BK427.out 3).trans rfl
                            have hcz152_4 : wc.cell? ⟨gb427, 4, none⟩ = some (.string a2_4) := (blk_cell BK427.out 4).trans rfl
                            have hfz152_0 := blk_frozen BK427.out 0
                            have hfz152_1 := blk_frozen BK427.out 1
                            have hfz152_2 := blk_frozen BK427.out 2
                            have hfz152_3 := blk_frozen BK427.out 3
                            have hfz152_4 := blk_frozen BK427.out 4
                            go_wp2_with (first | (go_at_call 19; (with_reducible refine (ver_Compare.calls kj49 a1_0 a1_1 a1_2 a1_3 a1_4 a2_0 a2_1 a2_2 a2_3 a2_4 t435 _ A80.out).mono ?_); rintro e w153 ⟨rfl, hb⟩; have n0_ := Aside0.mk (blk_below (g := gb425) (o := .cells #[.int .i64 a0_0, .int .i64 a0_1, .int .i64 a0_2, .string a0_3, .string a0_4] 23 (0, 0)) (by (with_reducible repeat (first | refine blk_drewN ?_ _ | refine blk_drew ?_ | refine blk_alloc ?_ _)); exact BK425.out) hb); have n1_ := Aside0.mk (blk_below (g := gb426) (o := .cells #[.int .i64 a1_0, .int .i64 a1_1, .int .i64 a1_2, .string a1_3, .string a1_4] 23 (0, 0)) (by (with_reducible repeat (first | refine blk_drewN ?_ _ | refine blk_drew ?_ | refine blk_alloc ?_ _)); exact BK426.out) hb); have n2_ := Aside0.mk (blk_below (g := gb427) (o := .cells #[.int .i64 a2_0, .int .i64 a2_1, .int .i64 a2_2, .string a2_3, .string a2_4] 23 (0, 0)) (by (with_reducible repeat (first | refine blk_drewN ?_ _ | refine blk_drew ?_ | refine blk_alloc ?_ _)); exact BK427.out) hb); have n3_ := Aside0.mk (below_step (by repeat (first | (with_reducible first | exact HB.out | apply below_alloc | apply pw_below_drewN | apply below_drew1 | refine below_set ?_ GE425.out | refine below_set ?_ GE426.out | refine below_set ?_ GE427.out) | exact HB.out)) hb); clear BK425; clear BK426; clear BK427; clear HB; have BK425 := n0_; have BK426 := n1_; have BK427 := n2_; have HB := n3_; clear n0_ n1_ n2_ n3_; (try clear hb); (try clear hb2); (try clear hk); (try clear hi); have hcz154_0 : w153.cell? ⟨gb425, 0, none⟩ = some (.int .i64 a0_0) := (blk_cell BK425.out 0).trans rfl; have hcz154_1 : w153.cell? ⟨gb425, 1, none⟩ = some (.int .i64 a0_1) := (blk_cell BK425.out 1).trans rfl; have hcz154_2 : w153.cell? ⟨gb425, 2, none⟩ = some (.int .i64 a0_2) := (blk_cell BK425.out 2).trans rfl; have hcz154_3 : w153.cell? ⟨gb425, 3, none⟩ = some (.string a0_3) := (blk_cell BK425.out 3).trans rfl; have hcz154_4 : w153.cell? ⟨gb425, 4, none⟩ = some (.string a0_4) := (blk_cell BK425.out 4).trans rfl; have hfz154_0 := blk_frozen BK425.out 0; have hfz154_1 := blk_frozen BK425.out 1; have hfz154_2 := blk_frozen BK425.out 2; have hfz154_3 := blk_frozen BK425.out 3; have hfz154_4 := blk_frozen BK425.out 4; have hcz155_0 : w153.cell? ⟨gb426, 0, none⟩ = some (.int .i64 a1_0) := (blk_cell BK426.out 0).trans rfl; have hcz155_1 : w153.cell? ⟨gb426, 1, none⟩ = some (.int .i64 a1_1) := (blk_cell BK426.out 1).trans rfl; have hcz155_2 : w153.cell? ⟨gb426, 2, none⟩ = some (.int .i64 a1_2) := (blk_cell BK426.out 2).trans rfl; have hcz155_3 : w153.cell? ⟨gb426, 3, none⟩ = some (.string a1_3) := (blk_cell BK426.out 3).trans rfl; have hcz155_4 : w153.cell? ⟨gb426, 4, none⟩ = some (.string a1_4) := (blk_cell BK426.out 4).trans rfl; have hfz155_0 := blk_frozen BK426.out 0; have hfz155_1 := blk_frozen BK426.out 1; have hfz155_2 := blk_frozen BK426.out 2; have hfz155_3 := blk_frozen BK426.out 3; have hfz155_4 := blk_frozen BK426.out 4) | (go_at_call 10; (with_reducible refine (armadalaw07_live.calls kj49  true _ A147.out (LW0 := LW.out.below (by repeat (first | (with_reducible first | exact HB.out | apply below_alloc | apply pw_below_drewN | apply below_drew1 | refine below_set ?_ GE425.out | refine below_set ?_ GE426.out | refine below_set ?_ GE427.out) | exact HB.out)))).mono ?_); rintro e w156 ⟨rfl, hb⟩; have n0_ := Aside0.mk (blk_below (g := gb425) (o := .cells #[.int .i64 a0_0, .int .i64 a0_1, .int .i64 a0_2, .string a0_3, .string a0_4] 23 (0, 0)) (by (with_reducible repeat (first | refine blk_drewN ?_ _ | refine blk_drew ?_ | refine blk_alloc ?_ _)); exact BK425.out) hb); have n1_ := Aside0.mk (blk_below (g := gb426) (o := .cells #[.int .i64 a1_0, .int .i64 a1_1, .int .i64 a1_2, .string a1_3, .string a1_4] 23 (0, 0)) (by (with_reducible repeat (first | refine blk_drewN ?_ _ | refine blk_drew ?_ | refine blk_alloc ?_ _)); exact BK426.out) hb); have n2_ := Aside0.mk (blk_below (g := gb427) (o := .cells #[.int .i64 a2_0, .int .i64 a2_1, .int .i64 a2_2, .string a2_3, .string a2_4] 23 (0, 0)) (by (with_reducible repeat (first | refine blk_drewN ?_ _ | refine blk_drew ?_ | refine blk_alloc ?_ _)); exact BK427.out) hb); have n3_ := Aside0.mk (below_step (by repeat (first | (with_reducible first | exact HB.out | apply below_alloc | apply pw_below_drewN | apply below_drew1 | refine below_set ?_ GE425.out | refine below_set ?_ GE426.out | refine below_set ?_ GE427.out) | exact HB.out)) hb); clear BK425; clear BK426; clear BK427; clear HB; have BK425 := n0_; have BK426 := n1_; have BK427 := n2_; have HB := n3_; clear n0_ n1_ n2_ n3_; (try clear hb); (try clear hb2); (try clear hk); (try clear hi)))
                            go_ret
                            exact ⟨by first | rfl | (simp [errW_none, errW_some] <;> rfl) | (simp [*, errW_none, errW_some] <;> rfl), by repeat (first | (with_reducible first | exact HB.out | apply below_alloc | apply pw_below_drewN | apply below_drew1 | refine below_set ?_ GE425.out | refine below_set ?_ GE426.out | refine below_set ?_ GE427.out) | exact HB.out)⟩
                          · rw [if_neg c146] at H
                            have c146b0 : ((t429 == 0) == (a0_3.toList == a1_3.toList)) = false := by simpa using c146
                            (try (have c146b1 : decide ((t429 == 0) = (a0_3.toList == a1_3.toList)) = false := by simpa using c146))
                            (try (have c146b2 : ((t429 == 0) == (a0_3.toList == a1_3.toList)) = false := by simpa using c146))
                            (try (have c146b3 : ¬ ((t429 == 0) = (a0_3.toList == a1_3.toList)) := by simpa using c146))
                            clear c146
                            exact absurd H (by simp)
                        · rw [if_neg c145] at H
                          have c145b0 : (a0_2 == a1_2) = false := beq_eq_false_iff_ne.mpr c145
                          have c145b1 : (a0_2 != a1_2) = true := bne_iff_ne.mpr c145
                          by_cases c157 : ((t429 == 0) == false) = true
                          · rw [if_pos c157] at H
                            have c157b0 : ((t429 == 0) == false) = true := c157
                            (try (have c157b1 : decide ((t429 == 0) = false) = true := by simpa using c157))
                            (try (have c157b2 : ((t429 == 0) == false) = true := by simpa using c157))
                            clear c157
                            replace H := Option.bind_eq_some_iff.mp H
                            obtain ⟨t442, A1580, H⟩ := H
                            replace H : (some t442) = some true := H
                            have A158 := Aside0.mk A1580
                            clear A1580
                            obtain rfl := Option.some.inj H
                            have hnb159 := NB426_425.out
                            have hnc159 := NB425_426.out
                            have hnb160 := NB426_427.out
                            have hnc160 := NB427_426.out
                            have hcz161_0 : wc.cell? ⟨gb426, 0, none⟩ = some (.int .i64 a1_0) := (blk_cell BK426.out 0).trans rfl
                            have hcz161_1 : wc.cell? ⟨gb426, 1, none⟩ = some (.int .i64 a1_1) := (blk_cell BK426.out 1).trans rfl
                            have hcz161_2 : wc.cell? ⟨gb426, 2, none⟩ = some (.int .i64 a1_2) := (blk_cell BK426.out 2).trans rfl
                            have hcz161_3 : wc.cell? ⟨gb426, 3, none⟩ = some (.string a1_3) := (blk_cell BK426.out 3).trans rfl
                            have hcz161_4 : wc.cell? ⟨gb426, 4, none⟩ = some (.string a1_4) := (blk_cell BK426.out 4).trans rfl
                            have hfz161_0 := blk_frozen BK426.out 0
                            have hfz161_1 := blk_frozen BK426.out 1
                            have hfz161_2 := blk_frozen BK426.out 2
                            have hfz161_3 := blk_frozen BK426.out 3
                            have hfz161_4 := blk_frozen BK426.out 4
                            have hnb162 := NB427_425.out
                            have hnc162 := NB425_427.out
                            have hcz163_0 : wc.cell? ⟨gb427, 0, none⟩ = some (.int .i64 a2_0) := (blk_cell BK427.out 0).trans rfl
                            have hcz163_1 : wc.cell? ⟨gb427, 1, none⟩ = some (.int .i64 a2_1) := (blk_cell BK427.out 1).trans rfl
                            have hcz163_2 : wc.cell? ⟨gb427, 2, none⟩ = some (.int .i64 a2_2) := (blk_cell BK427.out 2).trans rfl
                            have hcz163_3 : wc.cell? ⟨gb427, 3, none⟩ = some (.string a2_3) := (blk_cell BK427.out 3).trans rfl
                            have hcz163_4 : wc.cell? ⟨gb427, 4, none⟩ = some (.string a2_4) := (blk_cell BK427.out 4).trans rfl
                            have hfz163_0 := blk_frozen BK427.out 0
                            have hfz163_1 := blk_frozen BK427.out 1
                            have hfz163_2 := blk_frozen BK427.out 2
                            have hfz163_3 := blk_frozen BK427.out 3
                            have hfz163_4 := blk_frozen BK427.out 4
                            go_wp2_with (first | (go_at_call 19; (with_reducible refine (ver_Compare.calls kj49 a1_0 a1_1 a1_2 a1_3 a1_4 a2_0 a2_1 a2_2 a2_3 a2_4 t435 _ A80.out).mono ?_); rintro e w164 ⟨rfl, hb⟩; have n0_ := Aside0.mk (blk_below (g := gb425) (o := .cells #[.int .i64 a0_0, .int .i64 a0_1, .int .i64 a0_2, .string a0_3, .string a0_4] 23 (0, 0)) (by (with_reducible repeat (first | refine blk_drewN ?_ _ | refine blk_drew ?_ | refine blk_alloc ?_ _)); exact BK425.out) hb); have n1_ := Aside0.mk (blk_below (g := gb426) (o := .cells #[.int .i64 a1_0, .int .i64 a1_1, .int .i64 a1_2, .string a1_3, .string a1_4] 23 (0, 0)) (by (with_reducible repeat (first | refine blk_drewN ?_ _ | refine blk_drew ?_ | refine blk_alloc ?_ _)); exact BK426.out) hb); have n2_ := Aside0.mk (blk_below (g := gb427) (o := .cells #[.int .i64 a2_0, .int .i64 a2_1, .int .i64 a2_2, .string a2_3, .string a2_4] 23 (0, 0)) (by (with_reducible repeat (first | refine blk_drewN ?_ _ | refine blk_drew ?_ | refine blk_alloc ?_ _)); exact BK427.out) hb); have n3_ := Aside0.mk (below_step (by repeat (first | (with_reducible first | exact HB.out | apply below_alloc | apply pw_below_drewN | apply below_drew1 | refine below_set ?_ GE425.out | refine below_set ?_ GE426.out | refine below_set ?_ GE427.out) | exact HB.out)) hb); clear BK425; clear BK426; clear BK427; clear HB; have BK425 := n0_; have BK426 := n1_; have BK427 := n2_; have HB := n3_; clear n0_ n1_ n2_ n3_; (try clear hb); (try clear hb2); (try clear hk); (try clear hi); have hcz165_0 : w164.cell? ⟨gb425, 0, none⟩ = some (.int .i64 a0_0) := (blk_cell BK425.out 0).trans rfl; have hcz165_1 : w164.cell? ⟨gb425, 1, none⟩ = some (.int .i64 a0_1) := (blk_cell BK425.out 1).trans rfl; have hcz165_2 : w164.cell? ⟨gb425, 2, none⟩ = some (.int .i64 a0_2) := (blk_cell BK425.out 2).trans rfl; have hcz165_3 : w164.cell? ⟨gb425, 3, none⟩ = some (.string a0_3) := (blk_cell BK425.out 3).trans rfl; have hcz165_4 : w164.cell? ⟨gb425, 4, none⟩ = some (.string a0_4) := (blk_cell BK425.out 4).trans rfl; have hfz165_0 := blk_frozen BK425.out 0; have hfz165_1 := blk_frozen BK425.out 1; have hfz165_2 := blk_frozen BK425.out 2; have hfz165_3 := blk_frozen BK425.out 3; have hfz165_4 := blk_frozen BK425.out 4; have hcz166_0 : w164.cell? ⟨gb426, 0, none⟩ = some (.int .i64 a1_0) := (blk_cell BK426.out 0).trans rfl; have hcz166_1 : w164.cell? ⟨gb426, 1, none⟩ = some (.int .i64 a1_1) := (blk_cell BK426.out 1).trans rfl; have hcz166_2 : w164.cell? ⟨gb426, 2, none⟩ = some (.int .i64 a1_2) := (blk_cell BK426.out 2).trans rfl; have hcz166_3 : w164.cell? ⟨gb426, 3, none⟩ = some (.string a1_3) := (blk_cell BK426.out 3).trans rfl; have hcz166_4 : w164.cell? ⟨gb426, 4, none⟩ = some (.string a1_4) := (blk_cell BK426.out 4).trans rfl; have hfz166_0 := blk_frozen BK426.out 0; have hfz166_1 := blk_frozen BK426.out 1; have hfz166_2 := blk_frozen BK426.out 2; have hfz166_3 := blk_frozen BK426.out 3; have hfz166_4 := blk_frozen BK426.out 4) | (go_at_call 10; (with_reducible refine (armadalaw07_live.calls kj49  true _ A158.out (LW0 := LW.out.below (by repeat (first | (with_reducible first | exact HB.out | apply below_alloc | apply pw_below_drewN | apply below_drew1 | refine below_set ?_ GE425.out | refine below_set ?_ GE426.out | refine below_set ?_ GE427.out) | exact HB.out)))).mono ?_); rintro e w167 ⟨rfl, hb⟩; have n0_ := Aside0.mk (blk_below (g := gb425) (o := .cells #[.int .i64 a0_0, .int .i64 a0_1, .int .i64 a0_2, .string a0_3, .string a0_4] 23 (0, 0)) (by (with_reducible repeat (first | refine blk_drewN ?_ _ | refine blk_drew ?_ | refine blk_alloc ?_ _)); exact BK425.out) hb); have n1_ := Aside0.mk (blk_below (g := gb426) (o := .cells #[.int .i64 a1_0, .int .i64 a1_1, .int .i64 a1_2, .string a1_3, .string a1_4] 23 (0, 0)) (by (with_reducible repeat (first | refine blk_drewN ?_ _ | refine blk_drew ?_ | refine blk_alloc ?_ _)); exact BK426.out) hb); have n2_ := Aside0.mk (blk_below (g := gb427) (o := .cells #[.int .i64 a2_0, .int .i64 a2_1, .int .i64 a2_2, .string a2_3, .string a2_4] 23 (0, 0)) (by (with_reducible repeat (first | refine blk_drewN ?_ _ | refine blk_drew ?_ | refine blk_alloc ?_ _)); exact BK427.out) hb); have n3_ := Aside0.mk (below_step (by repeat (first | (with_reducible first | exact HB.out | apply below_alloc | apply pw_below_drewN | apply below_drew1 | refine below_set ?_ GE425.out | refine below_set ?_ GE426.out | refine below_set ?_ GE427.out) | exact HB.out)) hb); clear BK425; clear BK426; clear BK427; clear HB; have BK425 := n0_; have BK426 := n1_; have BK427 := n2_; have HB := n3_; clear n0_ n1_ n2_ n3_; (try clear hb); (try clear hb2); (try clear hk); (try clear hi)))
                            go_ret
                            exact ⟨by first | rfl | (simp [errW_none, errW_some] <;> rfl) | (simp [*, errW_none, errW_some] <;> rfl), by repeat (first | (with_reducible first | exact HB.out | apply below_alloc | apply pw_below_drewN | apply below_drew1 | refine below_set ?_ GE425.out | refine below_set ?_ GE426.out | refine below_set ?_ GE427.out) | exact HB.out)⟩
                          · rw [if_neg c157] at H
                            have c157b0 : ((t429 == 0) == false) = false := by simpa using c157
                            (try (have c157b1 : decide ((t429 == 0) = false) = false := by simpa using c157))
                            (try (have c157b2 : ((t429 == 0) == false) = false := by simpa using c157))
                            (try (have c157b3 : ¬ ((t429 == 0) = false) := by simpa using c157))
                            clear c157
                            exact absurd H (by simp)
                      · rw [if_neg c144] at H
                        have c144b0 : (a0_1 == a1_1) = false := beq_eq_false_iff_ne.mpr c144
                        have c144b1 : (a0_1 != a1_1) = true := bne_iff_ne.mpr c144
                        by_cases c168 : ((t429 == 0) == false) = true
                        · rw [if_pos c168] at H
                          have c168b0 : ((t429 == 0) == false) = true := c168
                          (try (have c168b1 : decide ((t429 == 0) = false) = true := by simpa using c168))
                          (try (have c168b2 : ((t429 == 0) == false) = true := by simpa using c168))
                          clear c168
                          replace H := Option.bind_eq_some_iff.mp H
                          obtain ⟨t443, A1690, H⟩ := H
                          replace H : (some t443) = some true := H
                          have A169 := Aside0.mk A1690
                          clear A1690
                          obtain rfl := Option.some.inj H
                          have hnb170 := NB426_425.out
                          have hnc170 := NB425_426.out
                          have hnb171 := NB426_427.out
                          have hnc171 := NB427_426.out
                          have hcz172_0 : wc.cell? ⟨gb426, 0, none⟩ = some (.int .i64 a1_0) := (blk_cell BK426.out 0).trans rfl
                          have hcz172_1 : wc.cell? ⟨gb426, 1, none⟩ = some (.int .i64 a1_1) := (blk_cell BK426.out 1).trans rfl
                          have hcz172_2 : wc.cell? ⟨gb426, 2, none⟩ = some (.int .i64 a1_2) := (blk_cell BK426.out 2).trans rfl
                          have hcz172_3 : wc.cell? ⟨gb426, 3, none⟩ = some (.string a1_3) := (blk_cell BK426.out 3).trans rfl
                          have hcz172_4 : wc.cell? ⟨gb426, 4, none⟩ = some (.string a1_4) := (blk_cell BK426.out 4).trans rfl
                          have hfz172_0 := blk_frozen BK426.out 0
                          have hfz172_1 := blk_frozen BK426.out 1
                          have hfz172_2 := blk_frozen BK426.out 2
                          have hfz172_3 := blk_frozen BK426.out 3
                          have hfz172_4 := blk_frozen BK426.out 4
                          have hnb173 := NB427_425.out
                          have hnc173 := NB425_427.out
                          have hcz174_0 : wc.cell? ⟨gb427, 0, none⟩ = some (.int .i64 a2_0) := (blk_cell BK427.out 0).trans rfl
                          have hcz174_1 : wc.cell? ⟨gb427, 1, none⟩ = some (.int .i64 a2_1) := (blk_cell BK427.out 1).trans rfl
                          have hcz174_2 : wc.cell? ⟨gb427, 2, none⟩ = some (.int .i64 a2_2) := (blk_cell BK427.out 2).trans rfl
                          have hcz174_3 : wc.cell? ⟨gb427, 3, none⟩ = some (.string a2_3) := (blk_cell BK427.out 3).trans rfl
                          have hcz174_4 : wc.cell? ⟨gb427, 4, none⟩ = some (.string a2_4) := (blk_cell BK427.out 4).trans rfl
                          have hfz174_0 := blk_frozen BK427.out 0
                          have hfz174_1 := blk_frozen BK427.out 1
                          have hfz174_2 := blk_frozen BK427.out 2
                          have hfz174_3 := blk_frozen BK427.out 3
                          have hfz174_4 := blk_frozen BK427.out 4
                          go_wp2_with (first | (go_at_call 19; (with_reducible refine (ver_Compare.calls kj49 a1_0 a1_1 a1_2 a1_3 a1_4 a2_0 a2_1 a2_2 a2_3 a2_4 t435 _ A80.out).mono ?_); rintro e w175 ⟨rfl, hb⟩; have n0_ := Aside0.mk (blk_below (g := gb425) (o := .cells #[.int .i64 a0_0, .int .i64 a0_1, .int .i64 a0_2, .string a0_3, .string a0_4] 23 (0, 0)) (by (with_reducible repeat (first | refine blk_drewN ?_ _ | refine blk_drew ?_ | refine blk_alloc ?_ _)); exact BK425.out) hb); have n1_ := Aside0.mk (blk_below (g := gb426) (o := .cells #[.int .i64 a1_0, .int .i64 a1_1, .int .i64 a1_2, .string a1_3, .string a1_4] 23 (0, 0)) (by (with_reducible repeat (first | refine blk_drewN ?_ _ | refine blk_drew ?_ | refine blk_alloc ?_ _)); exact BK426.out) hb); have n2_ := Aside0.mk (blk_below (g := gb427) (o := .cells #[.int .i64 a2_0, .int .i64 a2_1, .int .i64 a2_2, .string a2_3, .string a2_4] 23 (0, 0)) (by (with_reducible repeat (first | refine blk_drewN ?_ _ | refine blk_drew ?_ | refine blk_alloc ?_ _)); exact BK427.out) hb); have n3_ := Aside0.mk (below_step (by repeat (first | (with_reducible first | exact HB.out | apply below_alloc | apply pw_below_drewN | apply below_drew1 | refine below_set ?_ GE425.out | refine below_set ?_ GE426.out | refine below_set ?_ GE427.out) | exact HB.out)) hb); clear BK425; clear BK426; clear BK427; clear HB; have BK425 := n0_; have BK426 := n1_; have BK427 := n2_; have HB := n3_; clear n0_ n1_ n2_ n3_; (try clear hb); (try clear hb2); (try clear hk); (try clear hi); have hcz176_0 : w175.cell? ⟨gb425, 0, none⟩ = some (.int .i64 a0_0) := (blk_cell BK425.out 0).trans rfl; have hcz176_1 : w175.cell? ⟨gb425, 1, none⟩ = some (.int .i64 a0_1) := (blk_cell BK425.out 1).trans rfl; have hcz176_2 : w175.cell? ⟨gb425, 2, none⟩ = some (.int .i64 a0_2) := (blk_cell BK425.out 2).trans rfl; have hcz176_3 : w175.cell? ⟨gb425, 3, none⟩ = some (.string a0_3) := (blk_cell BK425.out 3).trans rfl; have hcz176_4 : w175.cell? ⟨gb425, 4, none⟩ = some (.string a0_4) := (blk_cell BK425.out 4).trans rfl; have hfz176_0 := blk_frozen BK425.out 0; have hfz176_1 := blk_frozen BK425.out 1; have hfz176_2 := blk_frozen BK425.out 2; have hfz176_3 := blk_frozen BK425.out 3; have hfz176_4 := blk_frozen BK425.out 4; have hcz177_0 : w175.cell? ⟨gb426, 0, none⟩ = some (.int .i64 a1_0) := (blk_cell BK426.out 0).trans rfl; have hcz177_1 : w175.cell? ⟨gb426, 1, none⟩ = some (.int .i64 a1_1) := (blk_cell BK426.out 1).trans rfl; have hcz177_2 : w175.cell? ⟨gb426, 2, none⟩ = some (.int .i64 a1_2) := (blk_cell BK426.out 2).trans rfl; have hcz177_3 : w175.cell? ⟨gb426, 3, none⟩ = some (.string a1_3) := (blk_cell BK426.out 3).trans rfl; have hcz177_4 : w175.cell? ⟨gb426, 4, none⟩ = some (.string a1_4) := (blk_cell BK426.out 4).trans rfl; have hfz177_0 := blk_frozen BK426.out 0; have hfz177_1 := blk_frozen BK426.out 1; have hfz177_2 := blk_frozen BK426.out 2; have hfz177_3 := blk_frozen BK426.out 3; have hfz177_4 := blk_frozen BK426.out 4) | (go_at_call 10; (with_reducible refine (armadalaw07_live.calls kj49  true _ A169.out (LW0 := LW.out.below (by repeat (first | (with_reducible first | exact HB.out | apply below_alloc | apply pw_below_drewN | apply below_drew1 | refine below_set ?_ GE425.out | refine below_set ?_ GE426.out | refine below_set ?_ GE427.out) | exact HB.out)))).mono ?_); rintro e w178 ⟨rfl, hb⟩; have n0_ := Aside0.mk (blk_below (g := gb425) (o := .cells #[.int .i64 a0_0, .int .i64 a0_1, .int .i64 a0_2, .string a0_3, .string a0_4] 23 (0, 0)) (by (with_reducible repeat (first | refine blk_drewN ?_ _ | refine blk_drew ?_ | refine blk_alloc ?_ _)); exact BK425.out) hb); have n1_ := Aside0.mk (blk_below (g := gb426) (o := .cells #[.int .i64 a1_0, .int .i64 a1_1, .int .i64 a1_2, .string a1_3, .string a1_4] 23 (0, 0)) (by (with_reducible repeat (first | refine blk_drewN ?_ _ | refine blk_drew ?_ | refine blk_alloc ?_ _)); exact BK426.out) hb); have n2_ := Aside0.mk (blk_below (g := gb427) (o := .cells #[.int .i64 a2_0, .int .i64 a2_1, .int .i64 a2_2, .string a2_3, .string a2_4] 23 (0, 0)) (by (with_reducible repeat (first | refine blk_drewN ?_ _ | refine blk_drew ?_ | refine blk_alloc ?_ _)); exact BK427.out) hb); have n3_ := Aside0.mk (below_step (by repeat (first | (with_reducible first | exact HB.out | apply below_alloc | apply pw_below_drewN | apply below_drew1 | refine below_set ?_ GE425.out | refine below_set ?_ GE426.out | refine below_set ?_ GE427.out) | exact HB.out)) hb); clear BK425; clear BK426; clear BK427; clear HB; have BK425 := n0_; have BK426 := n1_; have BK427 := n2_; have HB := n3_; clear n0_ n1_ n2_ n3_; (try clear hb); (try clear hb2); (try clear hk); (try clear hi)))
                          go_ret
                          exact ⟨by first | rfl | (simp [errW_none, errW_some] <;> rfl) | (simp [*, errW_none, errW_some] <;> rfl), by repeat (first | (with_reducible first | exact HB.out | apply below_alloc | apply pw_below_drewN | apply below_drew1 | refine below_set ?_ GE425.out | refine below_set ?_ GE426.out | refine below_set ?_ GE427.out) | exact HB.out)⟩
                        · rw [if_neg c168] at H
                          have c168b0 : ((t429 == 0) == false) = false := by simpa using c168
                          (try (have c168b1 : decide ((t429 == 0) = false) = false := by simpa using c168))
                          (try (have c168b2 : ((t429 == 0) == false) = false := by simpa using c168))
                          (try (have c168b3 : ¬ ((t429 == 0) = false) := by simpa using c168))
                          clear c168
                          exact absurd H (by simp)
                    · rw [if_neg c143] at H
                      have c143b0 : (a0_0 == a1_0) = false := beq_eq_false_iff_ne.mpr c143
                      have c143b1 : (a0_0 != a1_0) = true := bne_iff_ne.mpr c143
                      by_cases c179 : ((t429 == 0) == false) = true
                      · rw [if_pos c179] at H
                        have c179b0 : ((t429 == 0) == false) = true := c179
                        (try (have c179b1 : decide ((t429 == 0) = false) = true := by simpa using c179))
                        (try (have c179b2 : ((t429 == 0) == false) = true := by simpa using c179))
                        clear c179
                        replace H := Option.bind_eq_some_iff.mp H
                        obtain ⟨t444, A1800, H⟩ := H
                        replace H : (some t444) = some true := H
                        have A180 := Aside0.mk A1800
                        clear A1800
                        obtain rfl := Option.some.inj H
                        have hnb181 := NB426_425.out
                        have hnc181 := NB425_426.out
                        have hnb182 := NB426_427.out
                        have hnc182 := NB427_426.out
                        have hcz183_0 : wc.cell? ⟨gb426, 0, none⟩ = some (.int .i64 a1_0) := (blk_cell BK426.out 0).trans rfl
                        have hcz183_1 : wc.cell? ⟨gb426, 1, none⟩ = some (.int .i64 a1_1) := (blk_cell BK426.out 1).trans rfl
                        have hcz183_2 : wc.cell? ⟨gb426, 2, none⟩ = some (.int .i64 a1_2) := (blk_cell BK426.out 2).trans rfl
                        have hcz183_3 : wc.cell? ⟨gb426, 3, none⟩ = some (.string a1_3) := (blk_cell BK426.out 3).trans rfl
                        have hcz183_4 : wc.cell? ⟨gb426, 4, none⟩ = some (.string a1_4) := (blk_cell BK426.out 4).trans rfl
                        have hfz183_0 := blk_frozen BK426.out 0
                        have hfz183_1 := blk_frozen BK426.out 1
                        have hfz183_2 := blk_frozen BK426.out 2
                        have hfz183_3 := blk_frozen BK426.out 3
                        have hfz183_4 := blk_frozen BK426.out 4
                        have hnb184 := NB427_425.out
                        have hnc184 := NB425_427.out
                        have hcz185_0 : wc.cell? ⟨gb427, 0, none⟩ = some (.int .i64 a2_0) := (blk_cell BK427.out 0).trans rfl
                        have hcz185_1 : wc.cell? ⟨gb427, 1, none⟩ = some (.int .i64 a2_1) := (blk_cell BK427.out 1).trans rfl
                        have hcz185_2 : wc.cell? ⟨gb427, 2, none⟩ = some (.int .i64 a2_2) := (blk_cell BK427.out 2).trans rfl
                        have hcz185_3 : wc.cell? ⟨gb427, 3, none⟩ = some (.string a2_3) := (blk_cell BK427.out 3).trans rfl
                        have hcz185_4 : wc.cell? ⟨gb427, 4, none⟩ = some (.string a2_4) := (blk_cell BK427.out 4).trans rfl
                        have hfz185_0 := blk_frozen BK427.out 0
                        have hfz185_1 := blk_frozen BK427.out 1
                        have hfz185_2 := blk_frozen BK427.out 2
                        have hfz185_3 := blk_frozen BK427.out 3
                        have hfz185_4 := blk_frozen BK427.out 4
                        go_wp2_with (first | (go_at_call 19; (with_reducible refine (ver_Compare.calls kj49 a1_0 a1_1 a1_2 a1_3 a1_4 a2_0 a2_1 a2_2 a2_3 a2_4 t435 _ A80.out).mono ?_); rintro e w186 ⟨rfl, hb⟩; have n0_ := Aside0.mk (blk_below (g := gb425) (o := .cells #[.int .i64 a0_0, .int .i64 a0_1, .int .i64 a0_2, .string a0_3, .string a0_4] 23 (0, 0)) (by (with_reducible repeat (first | refine blk_drewN ?_ _ | refine blk_drew ?_ | refine blk_alloc ?_ _)); exact BK425.out) hb); have n1_ := Aside0.mk (blk_below (g := gb426) (o := .cells #[.int .i64 a1_0, .int .i64 a1_1, .int .i64 a1_2, .string a1_3, .string a1_4] 23 (0, 0)) (by (with_reducible repeat (first | refine blk_drewN ?_ _ | refine blk_drew ?_ | refine blk_alloc ?_ _)); exact BK426.out) hb); have n2_ := Aside0.mk (blk_below (g := gb427) (o := .cells #[.int .i64 a2_0, .int .i64 a2_1, .int .i64 a2_2, .string a2_3, .string a2_4] 23 (0, 0)) (by (with_reducible repeat (first | refine blk_drewN ?_ _ | refine blk_drew ?_ | refine blk_alloc ?_ _)); exact BK427.out) hb); have n3_ := Aside0.mk (below_step (by repeat (first | (with_reducible first | exact HB.out | apply below_alloc | apply pw_below_drewN | apply below_drew1 | refine below_set ?_ GE425.out | refine below_set ?_ GE426.out | refine below_set ?_ GE427.out) | exact HB.out)) hb); clear BK425; clear BK426; clear BK427; clear HB; have BK425 := n0_; have BK426 := n1_; have BK427 := n2_; have HB := n3_; clear n0_ n1_ n2_ n3_; (try clear hb); (try clear hb2); (try clear hk); (try clear hi); have hcz187_0 : w186.cell? ⟨gb425, 0, none⟩ = some (.int .i64 a0_0) := (blk_cell BK425.out 0).trans rfl; have hcz187_1 : w186.cell? ⟨gb425, 1, none⟩ = some (.int .i64 a0_1) := (blk_cell BK425.out 1).trans rfl; have hcz187_2 : w186.cell? ⟨gb425, 2, none⟩ = some (.int .i64 a0_2) := (blk_cell BK425.out 2).trans rfl; have hcz187_3 : w186.cell? ⟨gb425, 3, none⟩ = some (.string a0_3) := (blk_cell BK425.out 3).trans rfl; have hcz187_4 : w186.cell? ⟨gb425, 4, none⟩ = some (.string a0_4) := (blk_cell BK425.out 4).trans rfl; have hfz187_0 := blk_frozen BK425.out 0; have hfz187_1 := blk_frozen BK425.out 1; have hfz187_2 := blk_frozen BK425.out 2; have hfz187_3 := blk_frozen BK425.out 3; have hfz187_4 := blk_frozen BK425.out 4; have hcz188_0 : w186.cell? ⟨gb426, 0, none⟩ = some (.int .i64 a1_0) := (blk_cell BK426.out 0).trans rfl; have hcz188_1 : w186.cell? ⟨gb426, 1, none⟩ = some (.int .i64 a1_1) := (blk_cell BK426.out 1).trans rfl; have hcz188_2 : w186.cell? ⟨gb426, 2, none⟩ = some (.int .i64 a1_2) := (blk_cell BK426.out 2).trans rfl; have hcz188_3 : w186.cell? ⟨gb426, 3, none⟩ = some (.string a1_3) := (blk_cell BK426.out 3).trans rfl; have hcz188_4 : w186.cell? ⟨gb426, 4, none⟩ = some (.string a1_4) := (blk_cell BK426.out 4).trans rfl; have hfz188_0 := blk_frozen BK426.out 0; have hfz188_1 := blk_frozen BK426.out 1; have hfz188_2 := blk_frozen BK426.out 2; have hfz188_3 := blk_frozen BK426.out 3; have hfz188_4 := blk_frozen BK426.out 4) | (go_at_call 10; (with_reducible refine (armadalaw07_live.calls kj49  true _ A180.out (LW0 := LW.out.below (by repeat (first | (with_reducible first | exact HB.out | apply below_alloc | apply pw_below_drewN | apply below_drew1 | refine below_set ?_ GE425.out | refine below_set ?_ GE426.out | refine below_set ?_ GE427.out) | exact HB.out)))).mono ?_); rintro e w189 ⟨rfl, hb⟩; have n0_ := Aside0.mk (blk_below (g := gb425) (o := .cells #[.int .i64 a0_0, .int .i64 a0_1, .int .i64 a0_2, .string a0_3, .string a0_4] 23 (0, 0)) (by (with_reducible repeat (first | refine blk_drewN ?_ _ | refine blk_drew ?_ | refine blk_alloc ?_ _)); exact BK425.out) hb); have n1_ := Aside0.mk (blk_below (g := gb426) (o := .cells #[.int .i64 a1_0, .int .i64 a1_1, .int .i64 a1_2, .string a1_3, .string a1_4] 23 (0, 0)) (by (with_reducible repeat (first | refine blk_drewN ?_ _ | refine blk_drew ?_ | refine blk_alloc ?_ _)); exact BK426.out) hb); have n2_ := Aside0.mk (blk_below (g := gb427) (o := .cells #[.int .i64 a2_0, .int .i64 a2_1, .int .i64 a2_2, .string a2_3, .string a2_4] 23 (0, 0)) (by (with_reducible repeat (first | refine blk_drewN ?_ _ | refine blk_drew ?_ | refine blk_alloc ?_ _)); exact BK427.out) hb); have n3_ := Aside0.mk (below_step (by repeat (first | (with_reducible first | exact HB.out | apply below_alloc | apply pw_below_drewN | apply below_drew1 | refine below_set ?_ GE425.out | refine below_set ?_ GE426.out | refine below_set ?_ GE427.out) | exact HB.out)) hb); clear BK425; clear BK426; clear BK427; clear HB; have BK425 := n0_; have BK426 := n1_; have BK427 := n2_; have HB := n3_; clear n0_ n1_ n2_ n3_; (try clear hb); (try clear hb2); (try clear hk); (try clear hi)))
                        go_ret
                        exact ⟨by first | rfl | (simp [errW_none, errW_some] <;> rfl) | (simp [*, errW_none, errW_some] <;> rfl), by repeat (first | (with_reducible first | exact HB.out | apply below_alloc | apply pw_below_drewN | apply below_drew1 | refine below_set ?_ GE425.out | refine below_set ?_ GE426.out | refine below_set ?_ GE427.out) | exact HB.out)⟩
                      · rw [if_neg c179] at H
                        have c179b0 : ((t429 == 0) == false) = false := by simpa using c179
                        (try (have c179b1 : decide ((t429 == 0) = false) = false := by simpa using c179))
                        (try (have c179b2 : ((t429 == 0) == false) = false := by simpa using c179))
                        (try (have c179b3 : ¬ ((t429 == 0) = false) := by simpa using c179))
                        clear c179
                        exact absurd H (by simp)
                · rw [if_neg c79] at H
                  have c79b0 : decide (t429 ≤ 0) = false := decide_eq_false c79
                  clear c79
                  by_cases c190 : a0_0 = a1_0
                  · rw [if_pos c190] at H
                    have c190b0 : (a0_0 == a1_0) = true := beq_iff_eq.mpr c190
                    have c190b1 : (a0_0 != a1_0) = false := bne_eq_false_iff_eq.mpr c190
                    clear c190
                    by_cases c191 : a0_1 = a1_1
                    · rw [if_pos c191] at H
                      have c191b0 : (a0_1 == a1_1) = true := beq_iff_eq.mpr c191
                      have c191b1 : (a0_1 != a1_1) = false := bne_eq_false_iff_eq.mpr c191
                      clear c191
                      by_cases c192 : a0_2 = a1_2
                      · rw [if_pos c192] at H
                        have c192b0 : (a0_2 == a1_2) = true := beq_iff_eq.mpr c192
                        have c192b1 : (a0_2 != a1_2) = false := bne_eq_false_iff_eq.mpr c192
                        clear c192
                        by_cases c193 : ((t429 == 0) == (a0_3.toList == a1_3.toList)) = true
                        · rw [if_pos c193] at H
                          have c193b0 : ((t429 == 0) == (a0_3.toList == a1_3.toList)) = true := c193
                          (try (have c193b1 : decide ((t429 == 0) = (a0_3.toList == a1_3.toList)) = true := by simpa using c193))
                          (try (have c193b2 : ((t429 == 0) == (a0_3.toList == a1_3.toList)) = true := by simpa using c193))
                          clear c193
                          replace H := Option.bind_eq_some_iff.mp H
                          obtain ⟨t445, A1940, H⟩ := H
                          replace H : (some t445) = some true := H
                          have A194 := Aside0.mk A1940
                          clear A1940
                          obtain rfl := Option.some.inj H
                          have hnb195 := NB425_426.out
                          have hnc195 := NB426_425.out
                          have hnb196 := NB425_427.out
                          have hnc196 := NB427_425.out
                          have hcz197_0 : wc.cell? ⟨gb425, 0, none⟩ = some (.int .i64 a0_0) := (blk_cell BK425.out 0).trans rfl
                          have hcz197_1 : wc.cell? ⟨gb425, 1, none⟩ = some (.int .i64 a0_1) := (blk_cell BK425.out 1).trans rfl
                          have hcz197_2 : wc.cell? ⟨gb425, 2, none⟩ = some (.int .i64 a0_2) := (blk_cell BK425.out 2).trans rfl
                          have hcz197_3 : wc.cell? ⟨gb425, 3, none⟩ = some (.string a0_3) := (blk_cell BK425.out 3).trans rfl
                          have hcz197_4 : wc.cell? ⟨gb425, 4, none⟩ = some (.string a0_4) := (blk_cell BK425.out 4).trans rfl
                          have hfz197_0 := blk_frozen BK425.out 0
                          have hfz197_1 := blk_frozen BK425.out 1
                          have hfz197_2 := blk_frozen BK425.out 2
                          have hfz197_3 := blk_frozen BK425.out 3
                          have hfz197_4 := blk_frozen BK425.out 4
                          have hnb198 := NB426_427.out
                          have hnc198 := NB427_426.out
                          have hcz199_0 : wc.cell? ⟨gb426, 0, none⟩ = some (.int .i64 a1_0) := (blk_cell BK426.out 0).trans rfl
                          have hcz199_1 : wc.cell? ⟨gb426, 1, none⟩ = some (.int .i64 a1_1) := (blk_cell BK426.out 1).trans rfl
                          have hcz199_2 : wc.cell? ⟨gb426, 2, none⟩ = some (.int .i64 a1_2) := (blk_cell BK426.out 2).trans rfl
                          have hcz199_3 : wc.cell? ⟨gb426, 3, none⟩ = some (.string a1_3) := (blk_cell BK426.out 3).trans rfl
                          have hcz199_4 : wc.cell? ⟨gb426, 4, none⟩ = some (.string a1_4) := (blk_cell BK426.out 4).trans rfl
                          have hfz199_0 := blk_frozen BK426.out 0
                          have hfz199_1 := blk_frozen BK426.out 1
                          have hfz199_2 := blk_frozen BK426.out 2
                          have hfz199_3 := blk_frozen BK426.out 3
                          have hfz199_4 := blk_frozen BK426.out 4
                          go_wp2_with (first | (go_at_call 10; (with_reducible refine (armadalaw07_live.calls kj49  true _ A194.out (LW0 := LW.out.below (by repeat (first | (with_reducible first | exact HB.out | apply below_alloc | apply pw_below_drewN | apply below_drew1 | refine below_set ?_ GE425.out | refine below_set ?_ GE426.out | refine below_set ?_ GE427.out) | exact HB.out)))).mono ?_); rintro e w200 ⟨rfl, hb⟩; have n0_ := Aside0.mk (blk_below (g := gb425) (o := .cells #[.int .i64 a0_0, .int .i64 a0_1, .int .i64 a0_2, .string a0_3, .string a0_4] 23 (0, 0)) (by (with_reducible repeat (first | refine blk_drewN ?_ _ | refine blk_drew ?_ | refine blk_alloc ?_ _)); exact BK425.out) hb); have n1_ := Aside0.mk (blk_below (g := gb426) (o := .cells #[.int .i64 a1_0, .int .i64 a1_1, .int .i64 a1_2, .string a1_3, .string a1_4] 23 (0, 0)) (by (with_reducible repeat (first | refine blk_drewN ?_ _ | refine blk_drew ?_ | refine blk_alloc ?_ _)); exact BK426.out) hb); have n2_ := Aside0.mk (blk_below (g := gb427) (o := .cells #[.int .i64 a2_0, .int .i64 a2_1, .int .i64 a2_2, .string a2_3, .string a2_4] 23 (0, 0)) (by (with_reducible repeat (first | refine blk_drewN ?_ _ | refine blk_drew ?_ | refine blk_alloc ?_ _)); exact BK427.out) hb); have n3_ := Aside0.mk (below_step (by repeat (first | (with_reducible first | exact HB.out | apply below_alloc | apply pw_below_drewN | apply below_drew1 | refine below_set ?_ GE425.out | refine below_set ?_ GE426.out | refine below_set ?_ GE427.out) | exact HB.out)) hb); clear BK425; clear BK426; clear BK427; clear HB; have BK425 := n0_; have BK426 := n1_; have BK427 := n2_; have HB := n3_; clear n0_ n1_ n2_ n3_; (try clear hb); (try clear hb2); (try clear hk); (try clear hi)))
                          go_ret
                          exact ⟨by first | rfl | (simp [errW_none, errW_some] <;> rfl) | (simp [*, errW_none, errW_some] <;> rfl), by repeat (first | (with_reducible first | exact HB.out | apply below_alloc | apply pw_below_drewN | apply below_drew1 | refine below_set ?_ GE425.out | refine below_set ?_ GE426.out | refine below_set ?_ GE427.out) | exact HB.out)⟩
                        · rw [if_neg c193] at H
                          have c193b0 : ((t429 == 0) == (a0_3.toList == a1_3.toList)) = false := by simpa using c193
                          (try (have c193b1 : decide ((t429 == 0) = (a0_3.toList == a1_3.toList)) = false := by simpa using c193))
                          (try (have c193b2 : ((t429 == 0) == (a0_3.toList == a1_3.toList)) = false := by simpa using c193))
                          (try (have c193b3 : ¬ ((t429 == 0) = (a0_3.toList == a1_3.toList)) := by simpa using c193))
                          clear c193
                          exact absurd H (by simp)
                      · rw [if_neg c192] at H
                        have c192b0 : (a0_2 == a1_2) = false := beq_eq_false_iff_ne.mpr c192
                        have c192b1 : (a0_2 != a1_2) = true := bne_iff_ne.mpr c192
                        by_cases c201 : ((t429 == 0) == false) = true
                        · rw [if_pos c201] at H
                          have c201b0 : ((t429 == 0) == false) = true := c201
                          (try (have c201b1 : decide ((t429 == 0) = false) = true := by simpa using c201))
                          (try (have c201b2 : ((t429 == 0) == false) = true := by simpa using c201))
                          clear c201
                          replace H := Option.bind_eq_some_iff.mp H
                          obtain ⟨t446, A2020, H⟩ := H
                          replace H : (some t446) = some true := H
                          have A202 := Aside0.mk A2020
                          clear A2020
                          obtain rfl := Option.some.inj H
                          have hnb203 := NB425_426.out
                          have hnc203 := NB426_425.out
                          have hnb204 := NB425_427.out
                          have hnc204 := NB427_425.out
                          have hcz205_0 : wc.cell? ⟨gb425, 0, none⟩ = some (.int .i64 a0_0) := (blk_cell BK425.out 0).trans rfl
                          have hcz205_1 : wc.cell? ⟨gb425, 1, none⟩ = some (.int .i64 a0_1) := (blk_cell BK425.out 1).trans rfl
                          have hcz205_2 : wc.cell? ⟨gb425, 2, none⟩ = some (.int .i64 a0_2) := (blk_cell BK425.out 2).trans rfl
                          have hcz205_3 : wc.cell? ⟨gb425, 3, none⟩ = some (.string a0_3) := (blk_cell BK425.out 3).trans rfl
                          have hcz205_4 : wc.cell? ⟨gb425, 4, none⟩ = some (.string a0_4) := (blk_cell BK425.out 4).trans rfl
                          have hfz205_0 := blk_frozen BK425.out 0
                          have hfz205_1 := blk_frozen BK425.out 1
                          have hfz205_2 := blk_frozen BK425.out 2
                          have hfz205_3 := blk_frozen BK425.out 3
                          have hfz205_4 := blk_frozen BK425.out 4
                          have hnb206 := NB426_427.out
                          have hnc206 := NB427_426.out
                          have hcz207_0 : wc.cell? ⟨gb426, 0, none⟩ = some (.int .i64 a1_0) := (blk_cell BK426.out 0).trans rfl
                          have hcz207_1 : wc.cell? ⟨gb426, 1, none⟩ = some (.int .i64 a1_1) := (blk_cell BK426.out 1).trans rfl
                          have hcz207_2 : wc.cell? ⟨gb426, 2, none⟩ = some (.int .i64 a1_2) := (blk_cell BK426.out 2).trans rfl
                          have hcz207_3 : wc.cell? ⟨gb426, 3, none⟩ = some (.string a1_3) := (blk_cell BK426.out 3).trans rfl
                          have hcz207_4 : wc.cell? ⟨gb426, 4, none⟩ = some (.string a1_4) := (blk_cell BK426.out 4).trans rfl
                          have hfz207_0 := blk_frozen BK426.out 0
                          have hfz207_1 := blk_frozen BK426.out 1
                          have hfz207_2 := blk_frozen BK426.out 2
                          have hfz207_3 := blk_frozen BK426.out 3
                          have hfz207_4 := blk_frozen BK426.out 4
                          go_wp2_with (first | (go_at_call 10; (with_reducible refine (armadalaw07_live.calls kj49  true _ A202.out (LW0 := LW.out.below (by repeat (first | (with_reducible first | exact HB.out | apply below_alloc | apply pw_below_drewN | apply below_drew1 | refine below_set ?_ GE425.out | refine below_set ?_ GE426.out | refine below_set ?_ GE427.out) | exact HB.out)))).mono ?_); rintro e w208 ⟨rfl, hb⟩; have n0_ := Aside0.mk (blk_below (g := gb425) (o := .cells #[.int .i64 a0_0, .int .i64 a0_1, .int .i64 a0_2, .string a0_3, .string a0_4] 23 (0, 0)) (by (with_reducible repeat (first | refine blk_drewN ?_ _ | refine blk_drew ?_ | refine blk_alloc ?_ _)); exact BK425.out) hb); have n1_ := Aside0.mk (blk_below (g := gb426) (o := .cells #[.int .i64 a1_0, .int .i64 a1_1, .int .i64 a1_2, .string a1_3, .string a1_4] 23 (0, 0)) (by (with_reducible repeat (first | refine blk_drewN ?_ _ | refine blk_drew ?_ | refine blk_alloc ?_ _)); exact BK426.out) hb); have n2_ := Aside0.mk (blk_below (g := gb427) (o := .cells #[.int .i64 a2_0, .int .i64 a2_1, .int .i64 a2_2, .string a2_3, .string a2_4] 23 (0, 0)) (by (with_reducible repeat (first | refine blk_drewN ?_ _ | refine blk_drew ?_ | refine blk_alloc ?_ _)); exact BK427.out) hb); have n3_ := Aside0.mk (below_step (by repeat (first | (with_reducible first | exact HB.out | apply below_alloc | apply pw_below_drewN | apply below_drew1 | refine below_set ?_ GE425.out | refine below_set ?_ GE426.out | refine below_set ?_ GE427.out) | exact HB.out)) hb); clear BK425; clear BK426; clear BK427; clear HB; have BK425 := n0_; have BK426 := n1_; have BK427 := n2_; have HB := n3_; clear n0_ n1_ n2_ n3_; (try clear hb); (try clear hb2); (try clear hk); (try clear hi)))
                          go_ret
                          exact ⟨by first | rfl | (simp [errW_none, errW_some] <;> rfl) | (simp [*, errW_none, errW_some] <;> rfl), by repeat (first | (with_reducible first | exact HB.out | apply below_alloc | apply pw_below_drewN | apply below_drew1 | refine below_set ?_ GE425.out | refine below_set ?_ GE426.out | refine below_set ?_ GE427.out) | exact HB.out)⟩
                        · rw [if_neg c201] at H
                          have c201b0 : ((t429 == 0) == false) = false := by simpa using c201
                          (try (have c201b1 : decide ((t429 == 0) = false) = false := by simpa using c201))
                          (try (have c201b2 : ((t429 == 0) == false) = false := by simpa using c201))
                          (try (have c201b3 : ¬ ((t429 == 0) = false) := by simpa using c201))
                          clear c201
                          exact absurd H (by simp)
                    · rw [if_neg c191] at H
                      have c191b0 : (a0_1 == a1_1) = false := beq_eq_false_iff_ne.mpr c191
                      have c191b1 : (a0_1 != a1_1) = true := bne_iff_ne.mpr c191
                      by_cases c209 : ((t429 == 0) == false) = true
                      · rw [if_pos c209] at H
                        have c209b0 : ((t429 == 0) == false) = true := c209
                        (try (have c209b1 : decide ((t429 == 0) = false) = true := by simpa using c209))
                        (try (have c209b2 : ((t429 == 0) == false) = true := by simpa using c209))
                        clear c209
                        replace H := Option.bind_eq_some_iff.mp H
                        obtain ⟨t447, A2100, H⟩ := H
                        replace H : (some t447) = some true := H
                        have A210 := Aside0.mk A2100
                        clear A2100
                        obtain rfl := Option.some.inj H
                        have hnb211 := NB425_426.out
                        have hnc211 := NB426_425.out
                        have hnb212 := NB425_427.out
                        have hnc212 := NB427_425.out
                        have hcz213_0 : wc.cell? ⟨gb425, 0, none⟩ = some (.int .i64 a0_0) := (blk_cell BK425.out 0).trans rfl
                        have hcz213_1 : wc.cell? ⟨gb425, 1, none⟩ = some (.int .i64 a0_1) := (blk_cell BK425.out 1).trans rfl
                        have hcz213_2 : wc.cell? ⟨gb425, 2, none⟩ = some (.int .i64 a0_2) := (blk_cell BK425.out 2).trans rfl
                        have hcz213_3 : wc.cell? ⟨gb425, 3, none⟩ = some (.string a0_3) := (blk_cell BK425.out 3).trans rfl
                        have hcz213_4 : wc.cell? ⟨gb425, 4, none⟩ = some (.string a0_4) := (blk_cell BK425.out 4).trans rfl
                        have hfz213_0 := blk_frozen BK425.out 0
                        have hfz213_1 := blk_frozen BK425.out 1
                        have hfz213_2 := blk_frozen BK425.out 2
                        have hfz213_3 := blk_frozen BK425.out 3
                        have hfz213_4 := blk_frozen BK425.out 4
                        have hnb214 := NB426_427.out
                        have hnc214 := NB427_426.out
                        have hcz215_0 : wc.cell? ⟨gb426, 0, none⟩ = some (.int .i64 a1_0) := (blk_cell BK426.out 0).trans rfl
                        have hcz215_1 : wc.cell? ⟨gb426, 1, none⟩ = some (.int .i64 a1_1) := (blk_cell BK426.out 1).trans rfl
                        have hcz215_2 : wc.cell? ⟨gb426, 2, none⟩ = some (.int .i64 a1_2) := (blk_cell BK426.out 2).trans rfl
                        have hcz215_3 : wc.cell? ⟨gb426, 3, none⟩ = some (.string a1_3) := (blk_cell BK426.out 3).trans rfl
                        have hcz215_4 : wc.cell? ⟨gb426, 4, none⟩ = some (.string a1_4) := (blk_cell BK426.out 4).trans rfl
                        have hfz215_0 := blk_frozen BK426.out 0
                        have hfz215_1 := blk_frozen BK426.out 1
                        have hfz215_2 := blk_frozen BK426.out 2
                        have hfz215_3 := blk_frozen BK426.out 3
                        have hfz215_4 := blk_frozen BK426.out 4
                        go_wp2_with (first | (go_at_call 10; (with_reducible refine (armadalaw07_live.calls kj49  true _ A210.out (LW0 := LW.out.below (by repeat (first | (with_reducible first | exact HB.out | apply below_alloc | apply pw_below_drewN | apply below_drew1 | refine below_set ?_ GE425.out | refine below_set ?_ GE426.out | refine below_set ?_ GE427.out) | exact HB.out)))).mono ?_); rintro e w216 ⟨rfl, hb⟩; have n0_ := Aside0.mk (blk_below (g := gb425) (o := .cells #[.int .i64 a0_0, .int .i64 a0_1, .int .i64 a0_2, .string a0_3, .string a0_4] 23 (0, 0)) (by (with_reducible repeat (first | refine blk_drewN ?_ _ | refine blk_drew ?_ | refine blk_alloc ?_ _)); exact BK425.out) hb); have n1_ := Aside0.mk (blk_below (g := gb426) (o := .cells #[.int .i64 a1_0, .int .i64 a1_1, .int .i64 a1_2, .string a1_3, .string a1_4] 23 (0, 0)) (by (with_reducible repeat (first | refine blk_drewN ?_ _ | refine blk_drew ?_ | refine blk_alloc ?_ _)); exact BK426.out) hb); have n2_ := Aside0.mk (blk_below (g := gb427) (o := .cells #[.int .i64 a2_0, .int .i64 a2_1, .int .i64 a2_2, .string a2_3, .string a2_4] 23 (0, 0)) (by (with_reducible repeat (first | refine blk_drewN ?_ _ | refine blk_drew ?_ | refine blk_alloc ?_ _)); exact BK427.out) hb); have n3_ := Aside0.mk (below_step (by repeat (first | (with_reducible first | exact HB.out | apply below_alloc | apply pw_below_drewN | apply below_drew1 | refine below_set ?_ GE425.out | refine below_set ?_ GE426.out | refine below_set ?_ GE427.out) | exact HB.out)) hb); clear BK425; clear BK426; clear BK427; clear HB; have BK425 := n0_; have BK426 := n1_; have BK427 := n2_; have HB := n3_; clear n0_ n1_ n2_ n3_; (try clear hb); (try clear hb2); (try clear hk); (try clear hi)))
                        go_ret
                        exact ⟨by first | rfl | (simp [errW_none, errW_some] <;> rfl) | (simp [*, errW_none, errW_some] <;> rfl), by repeat (first | (with_reducible first | exact HB.out | apply below_alloc | apply pw_below_drewN | apply below_drew1 | refine below_set ?_ GE425.out | refine below_set ?_ GE426.out | refine below_set ?_ GE427.out) | exact HB.out)⟩
                      · rw [if_neg c209] at H
                        have c209b0 : ((t429 == 0) == false) = false := by simpa using c209
                        (try (have c209b1 : decide ((t429 == 0) = false) = false := by simpa using c209))
                        (try (have c209b2 : ((t429 == 0) == false) = false := by simpa using c209))
                        (try (have c209b3 : ¬ ((t429 == 0) = false) := by simpa using c209))
                        clear c209
                        exact absurd H (by simp)
                  · rw [if_neg c190] at H
                    have c190b0 : (a0_0 == a1_0) = false := beq_eq_false_iff_ne.mpr c190
                    have c190b1 : (a0_0 != a1_0) = true := bne_iff_ne.mpr c190
                    by_cases c217 : ((t429 == 0) == false) = true
                    · rw [if_pos c217] at H
                      have c217b0 : ((t429 == 0) == false) = true := c217
                      (try (have c217b1 : decide ((t429 == 0) = false) = true := by simpa using c217))
                      (try (have c217b2 : ((t429 == 0) == false) = true := by simpa using c217))
                      clear c217
                      replace H := Option.bind_eq_some_iff.mp H
                      obtain ⟨t448, A2180, H⟩ := H
                      replace H : (some t448) = some true := H
                      have A218 := Aside0.mk A2180
                      clear A2180
                      obtain rfl := Option.some.inj H
                      have hnb219 := NB425_426.out
                      have hnc219 := NB426_425.out
                      have hnb220 := NB425_427.out
                      have hnc220 := NB427_425.out
                      have hcz221_0 : wc.cell? ⟨gb425, 0, none⟩ = some (.int .i64 a0_0) := (blk_cell BK425.out 0).trans rfl
                      have hcz221_1 : wc.cell? ⟨gb425, 1, none⟩ = some (.int .i64 a0_1) := (blk_cell BK425.out 1).trans rfl
                      have hcz221_2 : wc.cell? ⟨gb425, 2, none⟩ = some (.int .i64 a0_2) := (blk_cell BK425.out 2).trans rfl
                      have hcz221_3 : wc.cell? ⟨gb425, 3, none⟩ = some (.string a0_3) := (blk_cell BK425.out 3).trans rfl
                      have hcz221_4 : wc.cell? ⟨gb425, 4, none⟩ = some (.string a0_4) := (blk_cell BK425.out 4).trans rfl
                      have hfz221_0 := blk_frozen BK425.out 0
                      have hfz221_1 := blk_frozen BK425.out 1
                      have hfz221_2 := blk_frozen BK425.out 2
                      have hfz221_3 := blk_frozen BK425.out 3
                      have hfz221_4 := blk_frozen BK425.out 4
                      have hnb222 := NB426_427.out
                      have hnc222 := NB427_426.out
                      have hcz223_0 : wc.cell? ⟨gb426, 0, none⟩ = some (.int .i64 a1_0) := (blk_cell BK426.out 0).trans rfl
                      have hcz223_1 : wc.cell? ⟨gb426, 1, none⟩ = some (.int .i64 a1_1) := (blk_cell BK426.out 1).trans rfl
                      have hcz223_2 : wc.cell? ⟨gb426, 2, none⟩ = some (.int .i64 a1_2) := (blk_cell BK426.out 2).trans rfl
                      have hcz223_3 : wc.cell? ⟨gb426, 3, none⟩ = some (.string a1_3) := (blk_cell BK426.out 3).trans rfl
                      have hcz223_4 : wc.cell? ⟨gb426, 4, none⟩ = some (.string a1_4) := (blk_cell BK426.out 4).trans rfl
                      have hfz223_0 := blk_frozen BK426.out 0
                      have hfz223_1 := blk_frozen BK426.out 1
                      have hfz223_2 := blk_frozen BK426.out 2
                      have hfz223_3 := blk_frozen BK426.out 3
                      have hfz223_4 := blk_frozen BK426.out 4
                      go_wp2_with (first | (go_at_call 10; (with_reducible refine (armadalaw07_live.calls kj49  true _ A218.out (LW0 := LW.out.below (by repeat (first | (with_reducible first | exact HB.out | apply below_alloc | apply pw_below_drewN | apply below_drew1 | refine below_set ?_ GE425.out | refine below_set ?_ GE426.out | refine below_set ?_ GE427.out) | exact HB.out)))).mono ?_); rintro e w224 ⟨rfl, hb⟩; have n0_ := Aside0.mk (blk_below (g := gb425) (o := .cells #[.int .i64 a0_0, .int .i64 a0_1, .int .i64 a0_2, .string a0_3, .string a0_4] 23 (0, 0)) (by (with_reducible repeat (first | refine blk_drewN ?_ _ | refine blk_drew ?_ | refine blk_alloc ?_ _)); exact BK425.out) hb); have n1_ := Aside0.mk (blk_below (g := gb426) (o := .cells #[.int .i64 a1_0, .int .i64 a1_1, .int .i64 a1_2, .string a1_3, .string a1_4] 23 (0, 0)) (by (with_reducible repeat (first | refine blk_drewN ?_ _ | refine blk_drew ?_ | refine blk_alloc ?_ _)); exact BK426.out) hb); have n2_ := Aside0.mk (blk_below (g := gb427) (o := .cells #[.int .i64 a2_0, .int .i64 a2_1, .int .i64 a2_2, .string a2_3, .string a2_4] 23 (0, 0)) (by (with_reducible repeat (first | refine blk_drewN ?_ _ | refine blk_drew ?_ | refine blk_alloc ?_ _)); exact BK427.out) hb); have n3_ := Aside0.mk (below_step (by repeat (first | (with_reducible first | exact HB.out | apply below_alloc | apply pw_below_drewN | apply below_drew1 | refine below_set ?_ GE425.out | refine below_set ?_ GE426.out | refine below_set ?_ GE427.out) | exact HB.out)) hb); clear BK425; clear BK426; clear BK427; clear HB; have BK425 := n0_; have BK426 := n1_; have BK427 := n2_; have HB := n3_; clear n0_ n1_ n2_ n3_; (try clear hb); (try clear hb2); (try clear hk); (try clear hi)))
                      go_ret
                      exact ⟨by first | rfl | (simp [errW_none, errW_some] <;> rfl) | (simp [*, errW_none, errW_some] <;> rfl), by repeat (first | (with_reducible first | exact HB.out | apply below_alloc | apply pw_below_drewN | apply below_drew1 | refine below_set ?_ GE425.out | refine below_set ?_ GE426.out | refine below_set ?_ GE427.out) | exact HB.out)⟩
                    · rw [if_neg c217] at H
                      have c217b0 : ((t429 == 0) == false) = false := by simpa using c217
                      (try (have c217b1 : decide ((t429 == 0) = false) = false := by simpa using c217))
                      (try (have c217b2 : ((t429 == 0) == false) = false := by simpa using c217))
                      (try (have c217b3 : ¬ ((t429 == 0) = false) := by simpa using c217))
                      clear c217
                      exact absurd H (by simp)
end Go.Proofs.YthoiepkejhhcoaaDoor.P
