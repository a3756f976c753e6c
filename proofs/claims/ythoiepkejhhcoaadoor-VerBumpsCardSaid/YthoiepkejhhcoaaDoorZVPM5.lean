/- Printed functions, merged. -/
import Derived.Test.YthoiepkejhhcoaaDoorZVPM0
import Derived.Test.YthoiepkejhhcoaaDoorZVPVLaid
import Derived.Test.YthoiepkejhhcoaaDoorZVPM3
import Derived.Test.YthoiepkejhhcoaaDoorZVPM4
import Derived.Test.YthoiepkejhhcoaaDoorZVPVBumpZ
import Derived.Test.YthoiepkejhhcoaaDoorZVPVCheck
namespace Go.Proofs.YthoiepkejhhcoaaDoor.P
open Go.RowKit Go.Proofs.YthoiepkejhhcoaaDoorW.PrintWords Go.Proofs.YthoiepkejhhcoaaDoorW.PrintLast Go.Proofs.YthoiepkejhhcoaaDoorW.PrintMore
attribute [local go_sem] max2_int min2_int max_two min_two max_three min_three max_four min_four   -- for this text's walks alone
set_option linter.unusedVariables false
set_option linter.unusedSimpArgs false
section
attribute [local go_sem high] eqA23
abbrev xN_ := @blk_drewN
abbrev xD_ := @blk_drew
abbrev xA_ := @blk_alloc
abbrev xF_ := @blk_frozen
abbrev xC_ := @blk_cell
abbrev xR_ := @blk_far
abbrev yA_ := @below_alloc
abbrev yN_ := @pw_below_drewN
abbrev yD_ := @below_drew1
abbrev yS_ := @below_set
mutual
def armadalaw07_VerBumps.j0 : Nat → Int → Bool → Int → Int → Int → ByteArray → ByteArray → Int → Int → Int → ByteArray → ByteArray → Option (Bool)
 | 0, _, _, _, _, _, _, _, _, _, _, _, _ => none
 | k + 1, x1, x33, x450000, x450001, x450002, x450003, x450004, x451000, x451001, x451002, x451003, x451004 => if x33 = true then ((armadalaw07_live.f k).bind fun t451 => (some t451)) else ((ver_Bump.f x450000 x450001 x450002 x450003 x450004 x1).bind fun bt452 => (if bt452.2.2.2.2.2 = 0 then ((ver_Compare.f k bt452.1 bt452.2.1 bt452.2.2.1 bt452.2.2.2.1 bt452.2.2.2.2.1 x450000 x450001 x450002 x450003 x450004).bind fun t464 => (if t464 = 1 then (if bt452.2.2.2.1.toList = ([] : List UInt8) then (if bt452.2.2.2.2.1.toList = ([] : List UInt8) then (if x1 ≥ 2 then (if bt452.2.2.1 = 0 then (if x1 = 3 then (armadalaw07_VerBumps.j1 k x1 (bt452.2.1 != 0) x450000 x450001 x450002 x450003 x450004 x451000 x451001 x451002 x451003 x451004 bt452.1 bt452.2.1 bt452.2.2.1 bt452.2.2.2.1 bt452.2.2.2.2.1) else (armadalaw07_VerBumps.j1 k x1 false x450000 x450001 x450002 x450003 x450004 x451000 x451001 x451002 x451003 x451004 bt452.1 bt452.2.1 bt452.2.2.1 bt452.2.2.2.1 bt452.2.2.2.2.1)) else (armadalaw07_VerBumps.j1 k x1 true x450000 x450001 x450002 x450003 x450004 x451000 x451001 x451002 x451003 x451004 bt452.1 bt452.2.1 bt452.2.2.1 bt452.2.2.2.1 bt452.2.2.2.2.1)) else (if x1 = 3 then (armadalaw07_VerBumps.j1 k x1 (bt452.2.1 != 0) x450000 x450001 x450002 x450003 x450004 x451000 x451001 x451002 x451003 x451004 bt452.1 bt452.2.1 bt452.2.2.1 bt452.2.2.2.1 bt452.2.2.2.2.1) else (armadalaw07_VerBumps.j1 k x1 false x450000 x450001 x450002 x450003 x450004 x451000 x451001 x451002 x451003 x451004 bt452.1 bt452.2.1 bt452.2.2.1 bt452.2.2.2.1 bt452.2.2.2.2.1))) else (armadalaw07_VerBumps.j1 k x1 true x450000 x450001 x450002 x450003 x450004 x451000 x451001 x451002 x451003 x451004 bt452.1 bt452.2.1 bt452.2.2.1 bt452.2.2.2.1 bt452.2.2.2.2.1)) else (armadalaw07_VerBumps.j1 k x1 true x450000 x450001 x450002 x450003 x450004 x451000 x451001 x451002 x451003 x451004 bt452.1 bt452.2.1 bt452.2.2.1 bt452.2.2.2.1 bt452.2.2.2.2.1)) else (armadalaw07_VerBumps.j1 k x1 true x450000 x450001 x450002 x450003 x450004 x451000 x451001 x451002 x451003 x451004 bt452.1 bt452.2.1 bt452.2.2.1 bt452.2.2.2.1 bt452.2.2.2.2.1))) else (if (bt452.1 == 0 && (bt452.2.1 == 0 && (bt452.2.2.1 == 0 && (bt452.2.2.2.1.toList == ([] : List UInt8) && (bt452.2.2.2.2.1.toList == ([] : List UInt8)))))) = true then (if bt452.2.2.2.2.2 = 15 then ((armadalaw07_live.f k).bind fun t459 => (some t459)) else ((ver_Check.f x450000 x450001 x450002 x450003 x450004).bind fun t460 => (if t460 = true then (if x1 < 1 then ((armadalaw07_live.f k).bind fun t461 => (some t461)) else (if x1 > 3 then ((armadalaw07_live.f k).bind fun t462 => (some t462)) else (some false))) else ((armadalaw07_live.f k).bind fun t463 => (some t463))))) else (some false))))
def armadalaw07_VerBumps.j1 : Nat → Int → Bool → Int → Int → Int → ByteArray → ByteArray → Int → Int → Int → ByteArray → ByteArray → Int → Int → Int → ByteArray → ByteArray → Option (Bool)
 | 0, _, _, _, _, _, _, _, _, _, _, _, _, _, _, _, _, _ => none
 | k + 1, x1, x97, x450000, x450001, x450002, x450003, x450004, x451000, x451001, x451002, x451003, x451004, x459000, x459001, x459002, x459003, x459004 => if x97 = true then (some false) else ((ver_Bump.f x450000 x450001 x450002 x450003 x450004 (wrap64 (x1 + 1))).bind fun bt465 => (if bt465.2.2.2.2.2 = 0 then ((ver_Compare.f k bt465.1 bt465.2.1 bt465.2.2.1 bt465.2.2.2.1 bt465.2.2.2.2.1 x459000 x459001 x459002 x459003 x459004).bind fun t472 => (armadalaw07_VerBumps.j2 k x1 (decide (t472 < 0)) x450000 x450001 x450002 x450003 x450004 x451000 x451001 x451002 x451003 x451004 x459000 x459001 x459002 x459003 x459004)) else (armadalaw07_VerBumps.j2 k x1 false x450000 x450001 x450002 x450003 x450004 x451000 x451001 x451002 x451003 x451004 x459000 x459001 x459002 x459003 x459004)))
def armadalaw07_VerBumps.j2 : Nat → Int → Bool → Int → Int → Int → ByteArray → ByteArray → Int → Int → Int → ByteArray → ByteArray → Int → Int → Int → ByteArray → ByteArray → Option (Bool)
 | 0, _, _, _, _, _, _, _, _, _, _, _, _, _, _, _, _, _ => none
 | k + 1, x1, x112, x450000, x450001, x450002, x450003, x450004, x451000, x451001, x451002, x451003, x451004, x459000, x459001, x459002, x459003, x459004 => if x112 = true then (some false) else ((ver_Check.f x451000 x451001 x451002 x451003 x451004).bind fun t473 => (if t473 = true then (if x451003.toList = ([] : List UInt8) then (if x1 < 2 then (if x1 < 3 then ((ver_Compare.f k x451000 x451001 x451002 x451003 x451004 x450000 x450001 x450002 x450003 x450004).bind fun t474 => (if t474 ≤ 0 then ((armadalaw07_live.f k).bind fun t475 => (some t475)) else ((ver_Compare.f k x451000 x451001 x451002 x451003 x451004 x459000 x459001 x459002 x459003 x459004).bind fun t476 => (if t476 ≥ 0 then ((armadalaw07_live.f k).bind fun t477 => (some t477)) else (some false))))) else (if x451001 = 0 then ((ver_Compare.f k x451000 x451001 x451002 x451003 x451004 x450000 x450001 x450002 x450003 x450004).bind fun t478 => (if t478 ≤ 0 then ((armadalaw07_live.f k).bind fun t479 => (some t479)) else ((ver_Compare.f k x451000 x451001 x451002 x451003 x451004 x459000 x459001 x459002 x459003 x459004).bind fun t480 => (if t480 ≥ 0 then ((armadalaw07_live.f k).bind fun t481 => (some t481)) else (some false))))) else ((armadalaw07_live.f k).bind fun t482 => (some t482)))) else (if x451002 = 0 then (if x1 < 3 then ((ver_Compare.f k x451000 x451001 x451002 x451003 x451004 x450000 x450001 x450002 x450003 x450004).bind fun t483 => (if t483 ≤ 0 then ((armadalaw07_live.f k).bind fun t484 => (some t484)) else ((ver_Compare.f k x451000 x451001 x451002 x451003 x451004 x459000 x459001 x459002 x459003 x459004).bind fun t485 => (if t485 ≥ 0 then ((armadalaw07_live.f k).bind fun t486 => (some t486)) else (some false))))) else (if x451001 = 0 then ((ver_Compare.f k x451000 x451001 x451002 x451003 x451004 x450000 x450001 x450002 x450003 x450004).bind fun t487 => (if t487 ≤ 0 then ((armadalaw07_live.f k).bind fun t488 => (some t488)) else ((ver_Compare.f k x451000 x451001 x451002 x451003 x451004 x459000 x459001 x459002 x459003 x459004).bind fun t489 => (if t489 ≥ 0 then ((armadalaw07_live.f k).bind fun t490 => (some t490)) else (some false))))) else ((armadalaw07_live.f k).bind fun t491 => (some t491)))) else ((armadalaw07_live.f k).bind fun t492 => (some t492)))) else ((armadalaw07_live.f k).bind fun t493 => (some t493))) else ((armadalaw07_live.f k).bind fun t494 => (some t494))))
end
def armadalaw07_VerBumps.f (k : Nat) (a0_0 : Int) (a0_1 : Int) (a0_2 : Int) (a0_3 : ByteArray) (a0_4 : ByteArray) (a1 : Int) (a2_0 : Int) (a2_1 : Int) (a2_2 : Int) (a2_3 : ByteArray) (a2_4 : ByteArray) : Option (Bool) := if (a0_3.size : Int) > 200 then (armadalaw07_VerBumps.j0 k a1 true a0_0 a0_1 a0_2 a0_3 a0_4 a2_0 a2_1 a2_2 a2_3 a2_4) else (if (a0_4.size : Int) > 200 then (armadalaw07_VerBumps.j0 k a1 true a0_0 a0_1 a0_2 a0_3 a0_4 a2_0 a2_1 a2_2 a2_3 a2_4) else (if (a2_3.size : Int) > 200 then (armadalaw07_VerBumps.j0 k a1 true a0_0 a0_1 a0_2 a0_3 a0_4 a2_0 a2_1 a2_2 a2_3 a2_4) else (armadalaw07_VerBumps.j0 k a1 (decide ((a2_4.size : Int) > 200)) a0_0 a0_1 a0_2 a0_3 a0_4 a2_0 a2_1 a2_2 a2_3 a2_4)))
theorem armadalaw07_VerBumps.mono_l : ∀ k, (∀ y0 y1 y2 y3 y4 y5 y6 y7 y8 y9 y10 y11, LeO (armadalaw07_VerBumps.j0 k y0 y1 y2 y3 y4 y5 y6 y7 y8 y9 y10 y11) (armadalaw07_VerBumps.j0 (k + 1) y0 y1 y2 y3 y4 y5 y6 y7 y8 y9 y10 y11)) ∧ (∀ y0 y1 y2 y3 y4 y5 y6 y7 y8 y9 y10 y11 y12 y13 y14 y15 y16, LeO (armadalaw07_VerBumps.j1 k y0 y1 y2 y3 y4 y5 y6 y7 y8 y9 y10 y11 y12 y13 y14 y15 y16) (armadalaw07_VerBumps.j1 (k + 1) y0 y1 y2 y3 y4 y5 y6 y7 y8 y9 y10 y11 y12 y13 y14 y15 y16)) ∧ (∀ y0 y1 y2 y3 y4 y5 y6 y7 y8 y9 y10 y11 y12 y13 y14 y15 y16, LeO (armadalaw07_VerBumps.j2 k y0 y1 y2 y3 y4 y5 y6 y7 y8 y9 y10 y11 y12 y13 y14 y15 y16) (armadalaw07_VerBumps.j2 (k + 1) y0 y1 y2 y3 y4 y5 y6 y7 y8 y9 y10 y11 y12 y13 y14 y15 y16))
 | 0 => ⟨fun _ _ _ _ _ _ _ _ _ _ _ _ r h => by simp [armadalaw07_VerBumps.j0] at h, fun _ _ _ _ _ _ _ _ _ _ _ _ _ _ _ _ _ r h => by simp [armadalaw07_VerBumps.j1] at h, fun _ _ _ _ _ _ _ _ _ _ _ _ _ _ _ _ _ r h => by simp [armadalaw07_VerBumps.j2] at h⟩
 | k + 1 => by
  obtain ⟨ih0, ih1, ih2⟩ := armadalaw07_VerBumps.mono_l k
  refine ⟨?_, ?_, ?_⟩
  ·intro y0 y1 y2 y3 y4 y5 y6 y7 y8 y9 y10 y11
   unfold armadalaw07_VerBumps.j0
   repeat' first
   | (with_reducible exact ih0 _ _ _ _ _ _ _ _ _ _ _ _)
   | (with_reducible exact ih1 _ _ _ _ _ _ _ _ _ _ _ _ _ _ _ _ _)
   | (with_reducible exact ih2 _ _ _ _ _ _ _ _ _ _ _ _ _ _ _ _ _)
   | (with_reducible exact armadalaw07_live.mono _)
   | (with_reducible exact ver_Compare.mono _ _ _ _ _ _ _ _ _ _ _)
   | (with_reducible exact LeO.refl _)
   | (with_reducible exact LeO.none _)
   | (with_reducible refine LeO.ite ?_ ?_)
   | (with_reducible refine LeO.bind ?_ (fun _ => ?_))
   | exact ih0 _ _ _ _ _ _ _ _ _ _ _ _
   | exact ih1 _ _ _ _ _ _ _ _ _ _ _ _ _ _ _ _ _
   | exact ih2 _ _ _ _ _ _ _ _ _ _ _ _ _ _ _ _ _
   | exact armadalaw07_live.mono _
   | exact ver_Compare.mono _ _ _ _ _ _ _ _ _ _ _
   | exact LeO.none _
   | refine LeO.ite ?_ ?_
   | refine LeO.bind ?_ (fun _ => ?_)
  ·intro y0 y1 y2 y3 y4 y5 y6 y7 y8 y9 y10 y11 y12 y13 y14 y15 y16
   unfold armadalaw07_VerBumps.j1
   repeat' first
   | (with_reducible exact ih0 _ _ _ _ _ _ _ _ _ _ _ _)
   | (with_reducible exact ih1 _ _ _ _ _ _ _ _ _ _ _ _ _ _ _ _ _)
   | (with_reducible exact ih2 _ _ _ _ _ _ _ _ _ _ _ _ _ _ _ _ _)
   | (with_reducible exact armadalaw07_live.mono _)
   | (with_reducible exact ver_Compare.mono _ _ _ _ _ _ _ _ _ _ _)
   | (with_reducible exact LeO.refl _)
   | (with_reducible exact LeO.none _)
   | (with_reducible refine LeO.ite ?_ ?_)
   | (with_reducible refine LeO.bind ?_ (fun _ => ?_))
   | exact ih0 _ _ _ _ _ _ _ _ _ _ _ _
   | exact ih1 _ _ _ _ _ _ _ _ _ _ _ _ _ _ _ _ _
   | exact ih2 _ _ _ _ _ _ _ _ _ _ _ _ _ _ _ _ _
   | exact armadalaw07_live.mono _
   | exact ver_Compare.mono _ _ _ _ _ _ _ _ _ _ _
   | exact LeO.none _
   | refine LeO.ite ?_ ?_
   | refine LeO.bind ?_ (fun _ => ?_)
  ·intro y0 y1 y2 y3 y4 y5 y6 y7 y8 y9 y10 y11 y12 y13 y14 y15 y16
   unfold armadalaw07_VerBumps.j2
   repeat' first
   | (with_reducible exact ih0 _ _ _ _ _ _ _ _ _ _ _ _)
   | (with_reducible exact ih1 _ _ _ _ _ _ _ _ _ _ _ _ _ _ _ _ _)
   | (with_reducible exact ih2 _ _ _ _ _ _ _ _ _ _ _ _ _ _ _ _ _)
   | (with_reducible exact armadalaw07_live.mono _)
   | (with_reducible exact ver_Compare.mono _ _ _ _ _ _ _ _ _ _ _)
   | (with_reducible exact LeO.refl _)
   | (with_reducible exact LeO.none _)
   | (with_reducible refine LeO.ite ?_ ?_)
   | (with_reducible refine LeO.bind ?_ (fun _ => ?_))
   | exact ih0 _ _ _ _ _ _ _ _ _ _ _ _
   | exact ih1 _ _ _ _ _ _ _ _ _ _ _ _ _ _ _ _ _
   | exact ih2 _ _ _ _ _ _ _ _ _ _ _ _ _ _ _ _ _
   | exact armadalaw07_live.mono _
   | exact ver_Compare.mono _ _ _ _ _ _ _ _ _ _ _
   | exact LeO.none _
   | refine LeO.ite ?_ ?_
   | refine LeO.bind ?_ (fun _ => ?_)
theorem armadalaw07_VerBumps.mono : ∀ a0 a1 a2 a3 a4 a5 a6 a7 a8 a9 a10 k, LeO (armadalaw07_VerBumps.f k a0 a1 a2 a3 a4 a5 a6 a7 a8 a9 a10) (armadalaw07_VerBumps.f (k + 1) a0 a1 a2 a3 a4 a5 a6 a7 a8 a9 a10) := by
 intro a0 a1 a2 a3 a4 a5 a6 a7 a8 a9 a10 k
 obtain ⟨ih0, ih1, ih2⟩ := armadalaw07_VerBumps.mono_l k
 unfold armadalaw07_VerBumps.f
 repeat' first
   | (with_reducible exact ih0 _ _ _ _ _ _ _ _ _ _ _ _)
   | (with_reducible exact ih1 _ _ _ _ _ _ _ _ _ _ _ _ _ _ _ _ _)
   | (with_reducible exact ih2 _ _ _ _ _ _ _ _ _ _ _ _ _ _ _ _ _)
   | (with_reducible exact armadalaw07_live.mono _)
   | (with_reducible exact ver_Compare.mono _ _ _ _ _ _ _ _ _ _ _)
   | (with_reducible exact LeO.refl _)
   | (with_reducible exact LeO.none _)
   | (with_reducible refine LeO.ite ?_ ?_)
   | (with_reducible refine LeO.bind ?_ (fun _ => ?_))
   | exact ih0 _ _ _ _ _ _ _ _ _ _ _ _
   | exact ih1 _ _ _ _ _ _ _ _ _ _ _ _ _ _ _ _ _
   | exact ih2 _ _ _ _ _ _ _ _ _ _ _ _ _ _ _ _ _
   | exact armadalaw07_live.mono _
   | exact ver_Compare.mono _ _ _ _ _ _ _ _ _ _ _
   | exact LeO.none _
   | refine LeO.ite ?_ ?_
   | refine LeO.bind ?_ (fun _ => ?_)
set_option maxHeartbeats 8000000 in
set_option maxRecDepth 100000 in
theorem armadalaw07_VerBumps.calls (k : Nat) (a0_0 : Int) (a0_1 : Int) (a0_2 : Int) (a0_3 : ByteArray) (a0_4 : ByteArray) (a1 : Int) (a2_0 : Int) (a2_1 : Int) (a2_2 : Int) (a2_3 : ByteArray) (a2_4 : ByteArray) (r : Bool) (w : World) (h : armadalaw07_VerBumps.f k a0_0 a0_1 a0_2 a0_3 a0_4 a1 a2_0 a2_1 a2_2 a2_3 a2_4 = some r) (hT_ : r = true := by rfl) (LW0 : LaidW w) :
  Calls Tryd.prog 7 #[.agg #[.int .i64 a0_0, .int .i64 a0_1, .int .i64 a0_2, .string a0_3, .string a0_4], .int .i64 a1, .agg #[.int .i64 a2_0, .int .i64 a2_1, .int .i64 a2_2, .string a2_3, .string a2_4]] w fun e w' => e = .returned (.bool r) ∧ Below w.heap.size w w' := by
 subst hT_
 have LW := Aside0.mk LW0
 clear LW0
 have hu23 := Tryd.underlying23
 have HB := Aside0.mk (Below.refl w.heap.size w)
 have H : (if (a0_3.size : Int) > 200 then (armadalaw07_VerBumps.j0 k a1 true a0_0 a0_1 a0_2 a0_3 a0_4 a2_0 a2_1 a2_2 a2_3 a2_4) else (if (a0_4.size : Int) > 200 then (armadalaw07_VerBumps.j0 k a1 true a0_0 a0_1 a0_2 a0_3 a0_4 a2_0 a2_1 a2_2 a2_3 a2_4) else (if (a2_3.size : Int) > 200 then (armadalaw07_VerBumps.j0 k a1 true a0_0 a0_1 a0_2 a0_3 a0_4 a2_0 a2_1 a2_2 a2_3 a2_4) else (armadalaw07_VerBumps.j0 k a1 (decide ((a2_4.size : Int) > 200)) a0_0 a0_1 a0_2 a0_3 a0_4 a2_0 a2_1 a2_2 a2_3 a2_4)))) = some true := h
 clear h
 have HC4 := Aside0.mk H
 clear H
 go_enter Tryd.func7, Tryd.ntmps7
 go_upto_region 1 with (first | ((with_reducible refine gate_dst (N := 3) rfl ?_); (try (refine gate_guard (by rfl) ?_; dsimp only)); refine box_event ?hg (N := 3) ?hd (cs := #[.int .i64 a0_0, .int .i64 a0_1, .int .i64 a0_2, .string a0_3, .string a0_4]) (t := 23) ?hr ?_; (case hd => rfl); (case hg => rfl); (case hr => first | (go_simp; done) | (go_simp; rfl)); intro gb0 hg w5 hbox hb; have n0_ := Aside0.mk (below_step (by repeat (first | (with_reducible first | exact HB.out | apply yA_ | apply yN_ | apply yD_) | exact HB.out)) hb); have n1_ := Aside0.mk (hbox); have n2_ := Aside0.mk ((by rw [hg]; exact (below_size (by repeat (first | (with_reducible first | exact HB.out | apply yA_ | apply yN_ | apply yD_) | exact HB.out))) : w.heap.size ≤ gb0)); have n3_ := Aside0.mk ((by rw [hg]; exact (below_size (by repeat (first | (with_reducible first | exact HB.out | apply yA_ | apply yN_ | apply yD_) | exact HB.out))) : w.heap.size ≤ gb0)); clear HB; have HB := n0_; have BK0 := n1_; have GW0 := n2_; have GE0 := n3_; clear n0_ n1_ n2_ n3_; clear hb hbox hg) | ((with_reducible refine gate_dst (N := 5) rfl ?_); (try (refine gate_guard (by rfl) ?_; dsimp only)); refine box_event ?hg (N := 5) ?hd (cs := #[.int .i64 a2_0, .int .i64 a2_1, .int .i64 a2_2, .string a2_3, .string a2_4]) (t := 23) ?hr ?_; (case hd => rfl); (case hg => rfl); (case hr => first | (go_simp; done) | (go_simp; rfl)); intro gb1 hg w6 hbox hb; have n0_ := Aside0.mk (blk_below (g := gb0) (o := .cells #[.int .i64 a0_0, .int .i64 a0_1, .int .i64 a0_2, .string a0_3, .string a0_4] 23 (0, 0)) (by (with_reducible repeat (first | apply xN_ | apply xD_ | apply xA_)); exact BK0.out) hb); have n1_ := Aside0.mk (below_step (by repeat (first | (with_reducible first | exact HB.out | apply yA_ | apply yN_ | apply yD_ | refine yS_ ?_ GE0.out) | exact HB.out)) hb); have n2_ := Aside0.mk (hbox); have n3_ := Aside0.mk ((by rw [hg]; exact (below_size (by repeat (first | (with_reducible first | exact HB.out | apply yA_ | apply yN_ | apply yD_ | refine yS_ ?_ GE0.out) | exact HB.out))) : w.heap.size ≤ gb1)); have n4_ := Aside0.mk ((by rw [hg]; exact (below_size (by repeat (first | (with_reducible first | exact HB.out | apply yA_ | apply yN_ | apply yD_ | refine yS_ ?_ GE0.out) | exact HB.out))) : w.heap.size ≤ gb1)); have n5_ := Aside0.mk ((by rw [hg]; exact Nat.ne_of_lt (blk_lt (g := gb0) (o := .cells #[.int .i64 a0_0, .int .i64 a0_1, .int .i64 a0_2, .string a0_3, .string a0_4] 23 (0, 0)) (by (with_reducible repeat (first | apply xN_ | apply xD_ | apply xA_)); exact BK0.out)) : gb0 ≠ gb1)); have n6_ := Aside0.mk ((by rw [hg]; exact Nat.ne_of_gt (blk_lt (g := gb0) (o := .cells #[.int .i64 a0_0, .int .i64 a0_1, .int .i64 a0_2, .string a0_3, .string a0_4] 23 (0, 0)) (by (with_reducible repeat (first | apply xN_ | apply xD_ | apply xA_)); exact BK0.out)) : gb1 ≠ gb0)); clear BK0; clear HB; have BK0 := n0_; have HB := n1_; have BK1 := n2_; have GW1 := n3_; have GE1 := n4_; have NB0_1 := n5_; have NB1_0 := n6_; clear n0_ n1_ n2_ n3_ n4_ n5_ n6_; clear hb hbox hg))
 (try simp only [Act.put, List.setIfInBounds_toArray, List.set_cons_zero, List.set_cons_succ])
 go_cut [33] (fun v33 wc => ∃ (kq : Nat) (x33_3 : Bool), v33 = .bool x33_3 ∧ Aside0 (armadalaw07_VerBumps.j0 kq a1 x33_3 a0_0 a0_1 a0_2 a0_3 a0_4 a2_0 a2_1 a2_2 a2_3 a2_4 = some true) ∧ Aside0 (kq ≤ k) ∧ Aside0 (wc.heap[gb0]? = some (.cells #[.int .i64 a0_0, .int .i64 a0_1, .int .i64 a0_2, .string a0_3, .string a0_4] 23 (0, 0))) ∧ Aside0 (wc.heap[gb1]? = some (.cells #[.int .i64 a2_0, .int .i64 a2_1, .int .i64 a2_2, .string a2_3, .string a2_4] 23 (0, 0))) ∧ Aside0 (Below w.heap.size w wc))
 case first =>
  have H := HC4.out
  clear HC4
  by_cases c7 : (a0_3.size : Int) > 200
  ·rw [if_pos c7] at H
   have c7b0 : decide (200 < (a0_3.size : Int)) = true := decide_eq_true c7
   have c7b1 : decide (200 < a0_3.size) = true := decide_eq_true (by omega)
   clear c7
   (first | rw [c7b0] | (simp only [i64_w, i32_w]; rw [c7b0]) | skip)
   have H' := Aside0.mk H
   clear H
   have hnb8 := NB0_1.out
   have hnc8 := NB1_0.out
   have uz0_0 : w6.cell? ⟨gb0, 0, none⟩ = some (.int .i64 a0_0) := (xC_ BK0.out 0).trans rfl
   have uz0_1 : w6.cell? ⟨gb0, 1, none⟩ = some (.int .i64 a0_1) := (xC_ BK0.out 1).trans rfl
   have uz0_2 : w6.cell? ⟨gb0, 2, none⟩ = some (.int .i64 a0_2) := (xC_ BK0.out 2).trans rfl
   have uz0_3 : w6.cell? ⟨gb0, 3, none⟩ = some (.string a0_3) := (xC_ BK0.out 3).trans rfl
   have uz0_4 : w6.cell? ⟨gb0, 4, none⟩ = some (.string a0_4) := (xC_ BK0.out 4).trans rfl
   have fz0_0 := xF_ BK0.out 0
   have fz0_1 := xF_ BK0.out 1
   have fz0_2 := xF_ BK0.out 2
   have fz0_3 := xF_ BK0.out 3
   have fz0_4 := xF_ BK0.out 4
   go_wp2
   go_meet
   case rel => exact ⟨_, (true), (by first | rfl | (simp; done) | (simp [*]; done)), H', ⟨by first | omega | exact Nat.le_refl _⟩, ⟨by (with_reducible repeat (first | apply xN_ | apply xD_ | apply xA_)); exact BK0.out⟩, ⟨by (with_reducible repeat (first | apply xN_ | apply xD_ | apply xA_)); exact BK1.out⟩, ⟨by repeat (first | (with_reducible first | exact HB.out | apply yA_ | apply yN_ | apply yD_ | refine yS_ ?_ GE0.out | refine yS_ ?_ GE1.out) | exact HB.out)⟩⟩
  ·rw [if_neg c7] at H
   have c7b0 : decide (200 < (a0_3.size : Int)) = false := decide_eq_false c7
   have c7b1 : decide (200 < a0_3.size) = false := decide_eq_false (by omega)
   clear c7
   (first | rw [c7b0] | (simp only [i64_w, i32_w]; rw [c7b0]) | skip)
   by_cases c10 : (a0_4.size : Int) > 200
   ·rw [if_pos c10] at H
    have c10b0 : decide (200 < (a0_4.size : Int)) = true := decide_eq_true c10
    have c10b1 : decide (200 < a0_4.size) = true := decide_eq_true (by omega)
    clear c10
    have H' := Aside0.mk H
    clear H
    have hnb11 := NB0_1.out
    have hnc11 := NB1_0.out
    have uz1_0 : w6.cell? ⟨gb0, 0, none⟩ = some (.int .i64 a0_0) := (xC_ BK0.out 0).trans rfl
    have uz1_1 : w6.cell? ⟨gb0, 1, none⟩ = some (.int .i64 a0_1) := (xC_ BK0.out 1).trans rfl
    have uz1_2 : w6.cell? ⟨gb0, 2, none⟩ = some (.int .i64 a0_2) := (xC_ BK0.out 2).trans rfl
    have uz1_3 : w6.cell? ⟨gb0, 3, none⟩ = some (.string a0_3) := (xC_ BK0.out 3).trans rfl
    have uz1_4 : w6.cell? ⟨gb0, 4, none⟩ = some (.string a0_4) := (xC_ BK0.out 4).trans rfl
    have fz1_0 := xF_ BK0.out 0
    have fz1_1 := xF_ BK0.out 1
    have fz1_2 := xF_ BK0.out 2
    have fz1_3 := xF_ BK0.out 3
    have fz1_4 := xF_ BK0.out 4
    go_wp2
    go_meet
    case rel => exact ⟨_, (true), (by first | rfl | (simp; done) | (simp [*]; done)), H', ⟨by first | omega | exact Nat.le_refl _⟩, ⟨by (with_reducible repeat (first | apply xN_ | apply xD_ | apply xA_)); exact BK0.out⟩, ⟨by (with_reducible repeat (first | apply xN_ | apply xD_ | apply xA_)); exact BK1.out⟩, ⟨by repeat (first | (with_reducible first | exact HB.out | apply yA_ | apply yN_ | apply yD_ | refine yS_ ?_ GE0.out | refine yS_ ?_ GE1.out) | exact HB.out)⟩⟩
   ·rw [if_neg c10] at H
    have c10b0 : decide (200 < (a0_4.size : Int)) = false := decide_eq_false c10
    have c10b1 : decide (200 < a0_4.size) = false := decide_eq_false (by omega)
    clear c10
    by_cases c13 : (a2_3.size : Int) > 200
    ·rw [if_pos c13] at H
     have c13b0 : decide (200 < (a2_3.size : Int)) = true := decide_eq_true c13
     have c13b1 : decide (200 < a2_3.size) = true := decide_eq_true (by omega)
     clear c13
     have H' := Aside0.mk H
     clear H
     have hnb14 := NB0_1.out
     have hnc14 := NB1_0.out
     have uz2_0 : w6.cell? ⟨gb0, 0, none⟩ = some (.int .i64 a0_0) := (xC_ BK0.out 0).trans rfl
     have uz2_1 : w6.cell? ⟨gb0, 1, none⟩ = some (.int .i64 a0_1) := (xC_ BK0.out 1).trans rfl
     have uz2_2 : w6.cell? ⟨gb0, 2, none⟩ = some (.int .i64 a0_2) := (xC_ BK0.out 2).trans rfl
     have uz2_3 : w6.cell? ⟨gb0, 3, none⟩ = some (.string a0_3) := (xC_ BK0.out 3).trans rfl
     have uz2_4 : w6.cell? ⟨gb0, 4, none⟩ = some (.string a0_4) := (xC_ BK0.out 4).trans rfl
     have fz2_0 := xF_ BK0.out 0
     have fz2_1 := xF_ BK0.out 1
     have fz2_2 := xF_ BK0.out 2
     have fz2_3 := xF_ BK0.out 3
     have fz2_4 := xF_ BK0.out 4
     have uz3_0 : w6.cell? ⟨gb1, 0, none⟩ = some (.int .i64 a2_0) := (xC_ BK1.out 0).trans rfl
     have uz3_1 : w6.cell? ⟨gb1, 1, none⟩ = some (.int .i64 a2_1) := (xC_ BK1.out 1).trans rfl
     have uz3_2 : w6.cell? ⟨gb1, 2, none⟩ = some (.int .i64 a2_2) := (xC_ BK1.out 2).trans rfl
     have uz3_3 : w6.cell? ⟨gb1, 3, none⟩ = some (.string a2_3) := (xC_ BK1.out 3).trans rfl
     have uz3_4 : w6.cell? ⟨gb1, 4, none⟩ = some (.string a2_4) := (xC_ BK1.out 4).trans rfl
     have fz3_0 := xF_ BK1.out 0
     have fz3_1 := xF_ BK1.out 1
     have fz3_2 := xF_ BK1.out 2
     have fz3_3 := xF_ BK1.out 3
     have fz3_4 := xF_ BK1.out 4
     go_wp2
     go_meet
     case rel => exact ⟨_, (true), (by first | rfl | (simp; done) | (simp [*]; done)), H', ⟨by first | omega | exact Nat.le_refl _⟩, ⟨by (with_reducible repeat (first | apply xN_ | apply xD_ | apply xA_)); exact BK0.out⟩, ⟨by (with_reducible repeat (first | apply xN_ | apply xD_ | apply xA_)); exact BK1.out⟩, ⟨by repeat (first | (with_reducible first | exact HB.out | apply yA_ | apply yN_ | apply yD_ | refine yS_ ?_ GE0.out | refine yS_ ?_ GE1.out) | exact HB.out)⟩⟩
    ·rw [if_neg c13] at H
     have c13b0 : decide (200 < (a2_3.size : Int)) = false := decide_eq_false c13
     have c13b1 : decide (200 < a2_3.size) = false := decide_eq_false (by omega)
     clear c13
     have H' := Aside0.mk H
     clear H
     have hnb17 := NB0_1.out
     have hnc17 := NB1_0.out
     have uz4_0 : w6.cell? ⟨gb0, 0, none⟩ = some (.int .i64 a0_0) := (xC_ BK0.out 0).trans rfl
     have uz4_1 : w6.cell? ⟨gb0, 1, none⟩ = some (.int .i64 a0_1) := (xC_ BK0.out 1).trans rfl
     have uz4_2 : w6.cell? ⟨gb0, 2, none⟩ = some (.int .i64 a0_2) := (xC_ BK0.out 2).trans rfl
     have uz4_3 : w6.cell? ⟨gb0, 3, none⟩ = some (.string a0_3) := (xC_ BK0.out 3).trans rfl
     have uz4_4 : w6.cell? ⟨gb0, 4, none⟩ = some (.string a0_4) := (xC_ BK0.out 4).trans rfl
     have fz4_0 := xF_ BK0.out 0
     have fz4_1 := xF_ BK0.out 1
     have fz4_2 := xF_ BK0.out 2
     have fz4_3 := xF_ BK0.out 3
     have fz4_4 := xF_ BK0.out 4
     have uz5_0 : w6.cell? ⟨gb1, 0, none⟩ = some (.int .i64 a2_0) := (xC_ BK1.out 0).trans rfl
     have uz5_1 : w6.cell? ⟨gb1, 1, none⟩ = some (.int .i64 a2_1) := (xC_ BK1.out 1).trans rfl
     have uz5_2 : w6.cell? ⟨gb1, 2, none⟩ = some (.int .i64 a2_2) := (xC_ BK1.out 2).trans rfl
     have uz5_3 : w6.cell? ⟨gb1, 3, none⟩ = some (.string a2_3) := (xC_ BK1.out 3).trans rfl
     have uz5_4 : w6.cell? ⟨gb1, 4, none⟩ = some (.string a2_4) := (xC_ BK1.out 4).trans rfl
     have fz5_0 := xF_ BK1.out 0
     have fz5_1 := xF_ BK1.out 1
     have fz5_2 := xF_ BK1.out 2
     have fz5_3 := xF_ BK1.out 3
     have fz5_4 := xF_ BK1.out 4
     go_wp2
     go_meet
     case rel => exact ⟨_, (decide ((a2_4.size : Int) > 200)), (by first | rfl | (simp; done) | (simp [*]; done)), H', ⟨by first | omega | exact Nat.le_refl _⟩, ⟨by (with_reducible repeat (first | apply xN_ | apply xD_ | apply xA_)); exact BK0.out⟩, ⟨by (with_reducible repeat (first | apply xN_ | apply xD_ | apply xA_)); exact BK1.out⟩, ⟨by repeat (first | (with_reducible first | exact HB.out | apply yA_ | apply yN_ | apply yD_ | refine yS_ ?_ GE0.out | refine yS_ ?_ GE1.out) | exact HB.out)⟩⟩
 case rest =>
  clear HC4
  (try clear c1); (try clear p2); (try clear c7); (try clear c7b0); (try clear c7b1); (try clear c8); (try clear c10); (try clear c10b0); (try clear c10b1); (try clear c11)
  (try clear c13); (try clear c13b0); (try clear c13b1); (try clear c14); (try clear c17); (try clear uz1_0); (try clear uz1_1); (try clear uz1_2); (try clear uz1_3)
  (try clear uz1_4); (try clear uz2_0); (try clear uz2_1); (try clear uz2_2); (try clear uz2_3); (try clear uz2_4); (try clear uz3_0); (try clear uz3_1); (try clear uz3_2)
  (try clear uz3_3); (try clear uz3_4); (try clear uz4_0); (try clear uz4_1); (try clear uz4_2); (try clear uz4_3); (try clear uz4_4); (try clear uz5_0); (try clear uz5_1)
  (try clear uz5_2); (try clear uz5_3); (try clear uz5_4); (try clear uz0_0); (try clear uz0_1); (try clear uz0_2); (try clear uz0_3); (try clear uz0_4); (try clear fz1_0)
  (try clear fz1_1); (try clear fz1_2); (try clear fz1_3); (try clear fz1_4); (try clear fz2_0); (try clear fz2_1); (try clear fz2_2); (try clear fz2_3); (try clear fz2_4)
  (try clear fz3_0); (try clear fz3_1); (try clear fz3_2); (try clear fz3_3); (try clear fz3_4); (try clear fz4_0); (try clear fz4_1); (try clear fz4_2); (try clear fz4_3)
  (try clear fz4_4); (try clear fz5_0); (try clear fz5_1); (try clear fz5_2); (try clear fz5_3); (try clear fz5_4); (try clear fz0_0); (try clear fz0_1); (try clear fz0_2)
  (try clear fz0_3); (try clear fz0_4)
  obtain ⟨kq, x33_3, rfl, HA, HJ3, BK0, BK1, HB⟩ := hcut
  cases kq with
  | zero => exact absurd HA.out (by simp [armadalaw07_VerBumps.j0])
  | succ kj3 =>
   have H := HA.out
   clear HA
   simp only [armadalaw07_VerBumps.j0] at H
   by_cases c20 : x33_3 = true
   ·subst c20
    have H1 : ((armadalaw07_live.f kj3).bind fun t451 => (some t451)) = some true := by rw [if_pos rfl] at H; exact H
    clear H
    have H := H1
    clear H1
    replace H := Option.bind_eq_some_iff.mp H
    obtain ⟨t451, A210, H⟩ := H
    replace H : (some t451) = some true := H
    have A21 := Aside0.mk A210
    clear A210
    obtain rfl := Option.some.inj H
    go_wp2_with (first | ((with_reducible refine gate_callee (f := 10) rfl ?_); refine goesL_ (some 34) rfl rfl Tryd.func10 (by kernel_rfl) rfl #[] rfl (by (try simp only [List.map_toArray, List.map_cons, List.map_nil]); first | done | rfl) ?_; (with_reducible refine (armadalaw07_live.calls kj3  true _ A21.out (LW0 := LW.out.below (by repeat (first | (with_reducible first | exact HB.out | apply yA_ | apply yN_ | apply yD_ | refine yS_ ?_ GE0.out | refine yS_ ?_ GE1.out) | exact HB.out)))).mono ?_); rintro e w22 ⟨rfl, hb⟩; refine ⟨_, rfl, ?_⟩; have n0_ := Aside0.mk (blk_below (g := gb0) (o := .cells #[.int .i64 a0_0, .int .i64 a0_1, .int .i64 a0_2, .string a0_3, .string a0_4] 23 (0, 0)) (by (with_reducible repeat (first | apply xN_ | apply xD_ | apply xA_)); exact BK0.out) hb); have n1_ := Aside0.mk (blk_below (g := gb1) (o := .cells #[.int .i64 a2_0, .int .i64 a2_1, .int .i64 a2_2, .string a2_3, .string a2_4] 23 (0, 0)) (by (with_reducible repeat (first | apply xN_ | apply xD_ | apply xA_)); exact BK1.out) hb); have n2_ := Aside0.mk (below_step (by repeat (first | (with_reducible first | exact HB.out | apply yA_ | apply yN_ | apply yD_ | refine yS_ ?_ GE0.out | refine yS_ ?_ GE1.out) | exact HB.out)) hb); clear BK0; clear BK1; clear HB; have BK0 := n0_; have BK1 := n1_; have HB := n2_; clear n0_ n1_ n2_; (try clear hb)))
    go_ret
    exact ⟨by first | rfl | (simp [errW_none, errW_some] <;> rfl) | (simp [*, errW_none, errW_some] <;> rfl), by repeat (first | (with_reducible first | exact HB.out | apply yA_ | apply yN_ | apply yD_ | refine yS_ ?_ GE0.out | refine yS_ ?_ GE1.out) | exact HB.out)⟩
   ·replace c20 := Bool.eq_false_iff.mpr c20
    subst c20
    have H1 : ((ver_Bump.f a0_0 a0_1 a0_2 a0_3 a0_4 a1).bind fun bt452 => (if bt452.2.2.2.2.2 = 0 then ((ver_Compare.f kj3 bt452.1 bt452.2.1 bt452.2.2.1 bt452.2.2.2.1 bt452.2.2.2.2.1 a0_0 a0_1 a0_2 a0_3 a0_4).bind fun t464 => (if t464 = 1 then (if bt452.2.2.2.1.toList = ([] : List UInt8) then (if bt452.2.2.2.2.1.toList = ([] : List UInt8) then (if a1 ≥ 2 then (if bt452.2.2.1 = 0 then (if a1 = 3 then (armadalaw07_VerBumps.j1 kj3 a1 (bt452.2.1 != 0) a0_0 a0_1 a0_2 a0_3 a0_4 a2_0 a2_1 a2_2 a2_3 a2_4 bt452.1 bt452.2.1 bt452.2.2.1 bt452.2.2.2.1 bt452.2.2.2.2.1) else (armadalaw07_VerBumps.j1 kj3 a1 false a0_0 a0_1 a0_2 a0_3 a0_4 a2_0 a2_1 a2_2 a2_3 a2_4 bt452.1 bt452.2.1 bt452.2.2.1 bt452.2.2.2.1 bt452.2.2.2.2.1)) else (armadalaw07_VerBumps.j1 kj3 a1 true a0_0 a0_1 a0_2 a0_3 a0_4 a2_0 a2_1 a2_2 a2_3 a2_4 bt452.1 bt452.2.1 bt452.2.2.1 bt452.2.2.2.1 bt452.2.2.2.2.1)) else (if a1 = 3 then (armadalaw07_VerBumps.j1 kj3 a1 (bt452.2.1 != 0) a0_0 a0_1 a0_2 a0_3 a0_4 a2_0 a2_1 a2_2 a2_3 a2_4 bt452.1 bt452.2.1 bt452.2.2.1 bt452.2.2.2.1 bt452.2.2.2.2.1) else (armadalaw07_VerBumps.j1 kj3 a1 false a0_0 a0_1 a0_2 a0_3 a0_4 a2_0 a2_1 a2_2 a2_3 a2_4 bt452.1 bt452.2.1 bt452.2.2.1 bt452.2.2.2.1 bt452.2.2.2.2.1))) else (armadalaw07_VerBumps.j1 kj3 a1 true a0_0 a0_1 a0_2 a0_3 a0_4 a2_0 a2_1 a2_2 a2_3 a2_4 bt452.1 bt452.2.1 bt452.2.2.1 bt452.2.2.2.1 bt452.2.2.2.2.1)) else (armadalaw07_VerBumps.j1 kj3 a1 true a0_0 a0_1 a0_2 a0_3 a0_4 a2_0 a2_1 a2_2 a2_3 a2_4 bt452.1 bt452.2.1 bt452.2.2.1 bt452.2.2.2.1 bt452.2.2.2.2.1)) else (armadalaw07_VerBumps.j1 kj3 a1 true a0_0 a0_1 a0_2 a0_3 a0_4 a2_0 a2_1 a2_2 a2_3 a2_4 bt452.1 bt452.2.1 bt452.2.2.1 bt452.2.2.2.1 bt452.2.2.2.2.1))) else (if (bt452.1 == 0 && (bt452.2.1 == 0 && (bt452.2.2.1 == 0 && (bt452.2.2.2.1.toList == ([] : List UInt8) && (bt452.2.2.2.2.1.toList == ([] : List UInt8)))))) = true then (if bt452.2.2.2.2.2 = 15 then ((armadalaw07_live.f kj3).bind fun t459 => (some t459)) else ((ver_Check.f a0_0 a0_1 a0_2 a0_3 a0_4).bind fun t460 => (if t460 = true then (if a1 < 1 then ((armadalaw07_live.f kj3).bind fun t461 => (some t461)) else (if a1 > 3 then ((armadalaw07_live.f kj3).bind fun t462 => (some t462)) else (some false))) else ((armadalaw07_live.f kj3).bind fun t463 => (some t463))))) else (some false)))) = some true := by rw [if_neg (show ¬ (false = true) by decide)] at H; exact H
    clear H
    have H := H1
    clear H1
    replace H := Option.bind_eq_some_iff.mp H
    obtain ⟨⟨t452, t453, t454, t455, t456, t457⟩, A230, H⟩ := H
    replace H : (if t457 = 0 then ((ver_Compare.f kj3 t452 t453 t454 t455 t456 a0_0 a0_1 a0_2 a0_3 a0_4).bind fun t464 => (if t464 = 1 then (if t455.toList = ([] : List UInt8) then (if t456.toList = ([] : List UInt8) then (if a1 ≥ 2 then (if t454 = 0 then (if a1 = 3 then (armadalaw07_VerBumps.j1 kj3 a1 (t453 != 0) a0_0 a0_1 a0_2 a0_3 a0_4 a2_0 a2_1 a2_2 a2_3 a2_4 t452 t453 t454 t455 t456) else (armadalaw07_VerBumps.j1 kj3 a1 false a0_0 a0_1 a0_2 a0_3 a0_4 a2_0 a2_1 a2_2 a2_3 a2_4 t452 t453 t454 t455 t456)) else (armadalaw07_VerBumps.j1 kj3 a1 true a0_0 a0_1 a0_2 a0_3 a0_4 a2_0 a2_1 a2_2 a2_3 a2_4 t452 t453 t454 t455 t456)) else (if a1 = 3 then (armadalaw07_VerBumps.j1 kj3 a1 (t453 != 0) a0_0 a0_1 a0_2 a0_3 a0_4 a2_0 a2_1 a2_2 a2_3 a2_4 t452 t453 t454 t455 t456) else (armadalaw07_VerBumps.j1 kj3 a1 false a0_0 a0_1 a0_2 a0_3 a0_4 a2_0 a2_1 a2_2 a2_3 a2_4 t452 t453 t454 t455 t456))) else (armadalaw07_VerBumps.j1 kj3 a1 true a0_0 a0_1 a0_2 a0_3 a0_4 a2_0 a2_1 a2_2 a2_3 a2_4 t452 t453 t454 t455 t456)) else (armadalaw07_VerBumps.j1 kj3 a1 true a0_0 a0_1 a0_2 a0_3 a0_4 a2_0 a2_1 a2_2 a2_3 a2_4 t452 t453 t454 t455 t456)) else (armadalaw07_VerBumps.j1 kj3 a1 true a0_0 a0_1 a0_2 a0_3 a0_4 a2_0 a2_1 a2_2 a2_3 a2_4 t452 t453 t454 t455 t456))) else (if (t452 == 0 && (t453 == 0 && (t454 == 0 && (t455.toList == ([] : List UInt8) && (t456.toList == ([] : List UInt8)))))) = true then (if t457 = 15 then ((armadalaw07_live.f kj3).bind fun t459 => (some t459)) else ((ver_Check.f a0_0 a0_1 a0_2 a0_3 a0_4).bind fun t460 => (if t460 = true then (if a1 < 1 then ((armadalaw07_live.f kj3).bind fun t461 => (some t461)) else (if a1 > 3 then ((armadalaw07_live.f kj3).bind fun t462 => (some t462)) else (some false))) else ((armadalaw07_live.f kj3).bind fun t463 => (some t463))))) else (some false))) = some true := H
    have A23 := Aside0.mk A230
    clear A230
    by_cases c24 : t457 = 0
    ·rw [if_pos c24] at H
     have c24b0 : (t457 == 0) = true := beq_iff_eq.mpr c24
     have c24b1 : (t457 != 0) = false := bne_eq_false_iff_eq.mpr c24
     clear c24
     have HC25 := Aside0.mk H
     clear H
     have hnb26 := NB0_1.out
     have hnc26 := NB1_0.out
     have uz6_0 : wc.cell? ⟨gb0, 0, none⟩ = some (.int .i64 a0_0) := (xC_ BK0.out 0).trans rfl
     have uz6_1 : wc.cell? ⟨gb0, 1, none⟩ = some (.int .i64 a0_1) := (xC_ BK0.out 1).trans rfl
     have uz6_2 : wc.cell? ⟨gb0, 2, none⟩ = some (.int .i64 a0_2) := (xC_ BK0.out 2).trans rfl
     have uz6_3 : wc.cell? ⟨gb0, 3, none⟩ = some (.string a0_3) := (xC_ BK0.out 3).trans rfl
     have uz6_4 : wc.cell? ⟨gb0, 4, none⟩ = some (.string a0_4) := (xC_ BK0.out 4).trans rfl
     have fz6_0 := xF_ BK0.out 0
     have fz6_1 := xF_ BK0.out 1
     have fz6_2 := xF_ BK0.out 2
     have fz6_3 := xF_ BK0.out 3
     have fz6_4 := xF_ BK0.out 4
     go_upto_region 6 with (first | ((with_reducible refine gate_callee (f := 17) rfl ?_); refine goesL_ (some 38) rfl rfl Tryd.func17 (by kernel_rfl) rfl #[.agg #[.int .i64 a0_0, .int .i64 a0_1, .int .i64 a0_2, .string a0_3, .string a0_4], .int .i64 a1] rfl (by (try simp only [List.map_toArray, List.map_cons, List.map_nil]); first | done | rfl) ?_; (with_reducible refine (ver_Bump.calls a0_0 a0_1 a0_2 a0_3 a0_4 a1 t452 t453 t454 t455 t456 t457 _ A23.out).mono ?_); rintro e w28 ⟨rfl, hb⟩; refine ⟨_, rfl, ?_⟩; have n0_ := Aside0.mk (blk_below (g := gb0) (o := .cells #[.int .i64 a0_0, .int .i64 a0_1, .int .i64 a0_2, .string a0_3, .string a0_4] 23 (0, 0)) (by (with_reducible repeat (first | apply xN_ | apply xD_ | apply xA_)); exact BK0.out) hb); have n1_ := Aside0.mk (blk_below (g := gb1) (o := .cells #[.int .i64 a2_0, .int .i64 a2_1, .int .i64 a2_2, .string a2_3, .string a2_4] 23 (0, 0)) (by (with_reducible repeat (first | apply xN_ | apply xD_ | apply xA_)); exact BK1.out) hb); have n2_ := Aside0.mk (below_step (by repeat (first | (with_reducible first | exact HB.out | apply yA_ | apply yN_ | apply yD_ | refine yS_ ?_ GE0.out | refine yS_ ?_ GE1.out) | exact HB.out)) hb); clear BK0; clear BK1; clear HB; have BK0 := n0_; have BK1 := n1_; have HB := n2_; clear n0_ n1_ n2_; (try clear hb)) | ((with_reducible refine gate_dst (N := 7) rfl ?_); (try (refine gate_guard (by rfl) ?_; dsimp only)); refine box_event ?hg (N := 7) ?hd (cs := #[.int .i64 0, .int .i64 0, .int .i64 0, .string (⟨#[]⟩ : ByteArray), .string (⟨#[]⟩ : ByteArray)]) (t := 23) ?hr ?_; (case hd => rfl); (case hg => rfl); (case hr => first | (go_simp; done) | (go_simp; rfl)); intro gb2 hg w29 hbox hb; have n0_ := Aside0.mk (blk_below (g := gb0) (o := .cells #[.int .i64 a0_0, .int .i64 a0_1, .int .i64 a0_2, .string a0_3, .string a0_4] 23 (0, 0)) (by (with_reducible repeat (first | apply xN_ | apply xD_ | apply xA_)); exact BK0.out) hb); have n1_ := Aside0.mk (blk_below (g := gb1) (o := .cells #[.int .i64 a2_0, .int .i64 a2_1, .int .i64 a2_2, .string a2_3, .string a2_4] 23 (0, 0)) (by (with_reducible repeat (first | apply xN_ | apply xD_ | apply xA_)); exact BK1.out) hb); have n2_ := Aside0.mk (below_step (by repeat (first | (with_reducible first | exact HB.out | apply yA_ | apply yN_ | apply yD_ | refine yS_ ?_ GE0.out | refine yS_ ?_ GE1.out) | exact HB.out)) hb); have n3_ := Aside0.mk (hbox); have n4_ := Aside0.mk ((by rw [hg]; exact (below_size (by repeat (first | (with_reducible first | exact HB.out | apply yA_ | apply yN_ | apply yD_ | refine yS_ ?_ GE0.out | refine yS_ ?_ GE1.out) | exact HB.out))) : w.heap.size ≤ gb2)); have n5_ := Aside0.mk ((by rw [hg]; exact (below_size (by repeat (first | (with_reducible first | exact HB.out | apply yA_ | apply yN_ | apply yD_ | refine yS_ ?_ GE0.out | refine yS_ ?_ GE1.out) | exact HB.out))) : w.heap.size ≤ gb2)); have n6_ := Aside0.mk ((by rw [hg]; exact Nat.ne_of_lt (blk_lt (g := gb0) (o := .cells #[.int .i64 a0_0, .int .i64 a0_1, .int .i64 a0_2, .string a0_3, .string a0_4] 23 (0, 0)) (by (with_reducible repeat (first | apply xN_ | apply xD_ | apply xA_)); exact BK0.out)) : gb0 ≠ gb2)); have n7_ := Aside0.mk ((by rw [hg]; exact Nat.ne_of_gt (blk_lt (g := gb0) (o := .cells #[.int .i64 a0_0, .int .i64 a0_1, .int .i64 a0_2, .string a0_3, .string a0_4] 23 (0, 0)) (by (with_reducible repeat (first | apply xN_ | apply xD_ | apply xA_)); exact BK0.out)) : gb2 ≠ gb0)); have n8_ := Aside0.mk ((by rw [hg]; exact Nat.ne_of_lt (blk_lt (g := gb1) (o := .cells #[.int .i64 a2_0, .int .i64 a2_1, .int .i64 a2_2, .string a2_3, .string a2_4] 23 (0, 0)) (by (with_reducible repeat (first | apply xN_ | apply xD_ | apply xA_)); exact BK1.out)) : gb1 ≠ gb2)); have n9_ := Aside0.mk ((by rw [hg]; exact Nat.ne_of_gt (blk_lt (g := gb1) (o := .cells #[.int .i64 a2_0, .int .i64 a2_1, .int .i64 a2_2, .string a2_3, .string a2_4] 23 (0, 0)) (by (with_reducible repeat (first | apply xN_ | apply xD_ | apply xA_)); exact BK1.out)) : gb2 ≠ gb1)); clear BK0; clear BK1; clear HB; have BK0 := n0_; have BK1 := n1_; have HB := n2_; have BK2 := n3_; have GW2 := n4_; have GE2 := n5_; have NB0_2 := n6_; have NB2_0 := n7_; have NB1_2 := n8_; have NB2_1 := n9_; clear n0_ n1_ n2_ n3_ n4_ n5_ n6_ n7_ n8_ n9_; clear hb hbox hg; have hnb30 := NB2_0.out; have hnc30 := NB0_2.out; have hnb31 := NB2_1.out; have hnc31 := NB1_2.out; have uz7_0 : w29.cell? ⟨gb2, 0, none⟩ = some (.int .i64 0) := (xC_ BK2.out 0).trans rfl; have uz7_1 : w29.cell? ⟨gb2, 1, none⟩ = some (.int .i64 0) := (xC_ BK2.out 1).trans rfl; have uz7_2 : w29.cell? ⟨gb2, 2, none⟩ = some (.int .i64 0) := (xC_ BK2.out 2).trans rfl; have uz7_3 : w29.cell? ⟨gb2, 3, none⟩ = some (.string (⟨#[]⟩ : ByteArray)) := (xC_ BK2.out 3).trans rfl; have uz7_4 : w29.cell? ⟨gb2, 4, none⟩ = some (.string (⟨#[]⟩ : ByteArray)) := (xC_ BK2.out 4).trans rfl; have fz7_0 := xF_ BK2.out 0; have fz7_1 := xF_ BK2.out 1; have fz7_2 := xF_ BK2.out 2; have fz7_3 := xF_ BK2.out 3; have fz7_4 := xF_ BK2.out 4))
     (try simp only [Act.put, List.setIfInBounds_toArray, List.set_cons_zero, List.set_cons_succ])
     go_cut [97] (fun v97 wc => ∃ (kq : Nat) (x97_24 : Bool), v97 = .bool x97_24 ∧ Aside0 (armadalaw07_VerBumps.j1 kq a1 x97_24 a0_0 a0_1 a0_2 a0_3 a0_4 a2_0 a2_1 a2_2 a2_3 a2_4 t452 t453 t454 t455 t456 = some true) ∧ Aside0 (kq ≤ kj3) ∧ Aside0 (wc.heap[gb0]? = some (.cells #[.int .i64 a0_0, .int .i64 a0_1, .int .i64 a0_2, .string a0_3, .string a0_4] 23 (0, 0))) ∧ Aside0 (wc.heap[gb1]? = some (.cells #[.int .i64 a2_0, .int .i64 a2_1, .int .i64 a2_2, .string a2_3, .string a2_4] 23 (0, 0))) ∧ Aside0 (wc.heap[gb2]? = some (.cells #[.int .i64 t452, .int .i64 t453, .int .i64 t454, .string t455, .string t456] 23 (0, 0))) ∧ Aside0 (Below w.heap.size w wc))
     case first =>
      have H := HC25.out
      clear HC25
      replace H := Option.bind_eq_some_iff.mp H
      obtain ⟨t464, A330, H⟩ := H
      replace H : (if t464 = 1 then (if t455.toList = ([] : List UInt8) then (if t456.toList = ([] : List UInt8) then (if a1 ≥ 2 then (if t454 = 0 then (if a1 = 3 then (armadalaw07_VerBumps.j1 kj3 a1 (t453 != 0) a0_0 a0_1 a0_2 a0_3 a0_4 a2_0 a2_1 a2_2 a2_3 a2_4 t452 t453 t454 t455 t456) else (armadalaw07_VerBumps.j1 kj3 a1 false a0_0 a0_1 a0_2 a0_3 a0_4 a2_0 a2_1 a2_2 a2_3 a2_4 t452 t453 t454 t455 t456)) else (armadalaw07_VerBumps.j1 kj3 a1 true a0_0 a0_1 a0_2 a0_3 a0_4 a2_0 a2_1 a2_2 a2_3 a2_4 t452 t453 t454 t455 t456)) else (if a1 = 3 then (armadalaw07_VerBumps.j1 kj3 a1 (t453 != 0) a0_0 a0_1 a0_2 a0_3 a0_4 a2_0 a2_1 a2_2 a2_3 a2_4 t452 t453 t454 t455 t456) else (armadalaw07_VerBumps.j1 kj3 a1 false a0_0 a0_1 a0_2 a0_3 a0_4 a2_0 a2_1 a2_2 a2_3 a2_4 t452 t453 t454 t455 t456))) else (armadalaw07_VerBumps.j1 kj3 a1 true a0_0 a0_1 a0_2 a0_3 a0_4 a2_0 a2_1 a2_2 a2_3 a2_4 t452 t453 t454 t455 t456)) else (armadalaw07_VerBumps.j1 kj3 a1 true a0_0 a0_1 a0_2 a0_3 a0_4 a2_0 a2_1 a2_2 a2_3 a2_4 t452 t453 t454 t455 t456)) else (armadalaw07_VerBumps.j1 kj3 a1 true a0_0 a0_1 a0_2 a0_3 a0_4 a2_0 a2_1 a2_2 a2_3 a2_4 t452 t453 t454 t455 t456)) = some true := H
      have A33 := Aside0.mk A330
      clear A330
      by_cases c34 : t464 = 1
      ·rw [if_pos c34] at H
       have c34b0 : (t464 == 1) = true := beq_iff_eq.mpr c34
       have c34b1 : (t464 != 1) = false := bne_eq_false_iff_eq.mpr c34
       clear c34
       (first | rw [c34b0] | (simp only [i64_w, i32_w]; rw [c34b0]) | skip)
       by_cases c35 : t455.toList = ([] : List UInt8)
       ·rw [if_pos c35] at H
        have c35b0 : (t455.toList == ([] : List UInt8)) = true := beq_iff_eq.mpr c35
        have c35be : t455.toList.isEmpty = true := by simpa using c35b0
        (try rw [c35be])
        (try simp only [Bool.not_true, Bool.not_false])
        have c35b1 : (t455.toList != ([] : List UInt8)) = false := bne_eq_false_iff_eq.mpr c35
        clear c35
        by_cases c36 : t456.toList = ([] : List UInt8)
        ·rw [if_pos c36] at H
         have c36b0 : (t456.toList == ([] : List UInt8)) = true := beq_iff_eq.mpr c36
         have c36be : t456.toList.isEmpty = true := by simpa using c36b0
         (try rw [c36be])
         (try simp only [Bool.not_true, Bool.not_false])
         have c36b1 : (t456.toList != ([] : List UInt8)) = false := bne_eq_false_iff_eq.mpr c36
         clear c36
         by_cases c37 : a1 ≥ 2
         ·rw [if_pos c37] at H
          have c37b0 : decide (2 ≤ a1) = true := decide_eq_true c37
          clear c37
          by_cases c38 : t454 = 0
          ·rw [if_pos c38] at H
           have c38b0 : (t454 == 0) = true := beq_iff_eq.mpr c38
           have c38b1 : (t454 != 0) = false := bne_eq_false_iff_eq.mpr c38
           clear c38
           by_cases c39 : a1 = 3
           ·rw [if_pos c39] at H
            have c39b0 : (a1 == 3) = true := beq_iff_eq.mpr c39
            have c39b1 : (a1 != 3) = false := bne_eq_false_iff_eq.mpr c39
            clear c39
            have H' := Aside0.mk H
            clear H
            have hnb40 := NB2_0.out
            have hnc40 := NB0_2.out
            have hnb41 := NB2_1.out
            have hnc41 := NB1_2.out
            have uz8_0 : w29.cell? ⟨gb2, 0, none⟩ = some (.int .i64 0) := (xC_ BK2.out 0).trans rfl
            have uz8_1 : w29.cell? ⟨gb2, 1, none⟩ = some (.int .i64 0) := (xC_ BK2.out 1).trans rfl
            have uz8_2 : w29.cell? ⟨gb2, 2, none⟩ = some (.int .i64 0) := (xC_ BK2.out 2).trans rfl
            have uz8_3 : w29.cell? ⟨gb2, 3, none⟩ = some (.string (⟨#[]⟩ : ByteArray)) := (xC_ BK2.out 3).trans rfl
            have uz8_4 : w29.cell? ⟨gb2, 4, none⟩ = some (.string (⟨#[]⟩ : ByteArray)) := (xC_ BK2.out 4).trans rfl
            have fz8_0 := xF_ BK2.out 0
            have fz8_1 := xF_ BK2.out 1
            have fz8_2 := xF_ BK2.out 2
            have fz8_3 := xF_ BK2.out 3
            have fz8_4 := xF_ BK2.out 4
            have hnb43 := NB0_1.out
            have hnc43 := NB1_0.out
            have uz9_0 : w29.cell? ⟨gb0, 0, none⟩ = some (.int .i64 a0_0) := (xC_ BK0.out 0).trans rfl
            have uz9_1 : w29.cell? ⟨gb0, 1, none⟩ = some (.int .i64 a0_1) := (xC_ BK0.out 1).trans rfl
            have uz9_2 : w29.cell? ⟨gb0, 2, none⟩ = some (.int .i64 a0_2) := (xC_ BK0.out 2).trans rfl
            have uz9_3 : w29.cell? ⟨gb0, 3, none⟩ = some (.string a0_3) := (xC_ BK0.out 3).trans rfl
            have uz9_4 : w29.cell? ⟨gb0, 4, none⟩ = some (.string a0_4) := (xC_ BK0.out 4).trans rfl
            have fz9_0 := xF_ BK0.out 0
            have fz9_1 := xF_ BK0.out 1
            have fz9_2 := xF_ BK0.out 2
            have fz9_3 := xF_ BK0.out 3
            have fz9_4 := xF_ BK0.out 4
            go_wp2_with (first | ((with_reducible refine gate_callee (f := 19) rfl ?_); refine goesL_ (some 68) rfl rfl Tryd.func19 (by kernel_rfl) rfl #[.agg #[.int .i64 t452, .int .i64 t453, .int .i64 t454, .string t455, .string t456], .agg #[.int .i64 a0_0, .int .i64 a0_1, .int .i64 a0_2, .string a0_3, .string a0_4]] rfl (by (try simp only [List.map_toArray, List.map_cons, List.map_nil]); first | done | rfl) ?_; (with_reducible refine (ver_Compare.calls kj3 t452 t453 t454 t455 t456 a0_0 a0_1 a0_2 a0_3 a0_4 t464 _ A33.out).mono ?_); rintro e w45 ⟨rfl, hb⟩; refine ⟨_, rfl, ?_⟩; have n0_ := Aside0.mk (blk_below (g := gb0) (o := .cells #[.int .i64 a0_0, .int .i64 a0_1, .int .i64 a0_2, .string a0_3, .string a0_4] 23 (0, 0)) (by (with_reducible repeat (first | apply xN_ | apply xD_ | apply xA_)); refine xR_ ?_ NB0_2.out _; refine xR_ ?_ NB0_2.out _; refine xR_ ?_ NB0_2.out _; refine xR_ ?_ NB0_2.out _; refine xR_ ?_ NB0_2.out _; (with_reducible repeat (first | apply xN_ | apply xD_ | apply xA_)); exact BK0.out) hb); have n1_ := Aside0.mk (blk_below (g := gb1) (o := .cells #[.int .i64 a2_0, .int .i64 a2_1, .int .i64 a2_2, .string a2_3, .string a2_4] 23 (0, 0)) (by (with_reducible repeat (first | apply xN_ | apply xD_ | apply xA_)); refine xR_ ?_ NB1_2.out _; refine xR_ ?_ NB1_2.out _; refine xR_ ?_ NB1_2.out _; refine xR_ ?_ NB1_2.out _; refine xR_ ?_ NB1_2.out _; (with_reducible repeat (first | apply xN_ | apply xD_ | apply xA_)); exact BK1.out) hb); have n2_ := Aside0.mk (blk_below (g := gb2) (o := .cells #[.int .i64 t452, .int .i64 t453, .int .i64 t454, .string t455, .string t456] 23 (0, 0)) (by (with_reducible repeat (first | apply xN_ | apply xD_ | apply xA_)); refine blk_put (cs := #[.int .i64 t452, .int .i64 t453, .int .i64 t454, .string t455, .string (⟨#[]⟩ : ByteArray)]) ?_ 4 _ rfl; refine blk_put (cs := #[.int .i64 t452, .int .i64 t453, .int .i64 t454, .string (⟨#[]⟩ : ByteArray), .string (⟨#[]⟩ : ByteArray)]) ?_ 3 _ rfl; refine blk_put (cs := #[.int .i64 t452, .int .i64 t453, .int .i64 0, .string (⟨#[]⟩ : ByteArray), .string (⟨#[]⟩ : ByteArray)]) ?_ 2 _ rfl; refine blk_put (cs := #[.int .i64 t452, .int .i64 0, .int .i64 0, .string (⟨#[]⟩ : ByteArray), .string (⟨#[]⟩ : ByteArray)]) ?_ 1 _ rfl; refine blk_put (cs := #[.int .i64 0, .int .i64 0, .int .i64 0, .string (⟨#[]⟩ : ByteArray), .string (⟨#[]⟩ : ByteArray)]) ?_ 0 _ rfl; (with_reducible repeat (first | apply xN_ | apply xD_ | apply xA_)); exact BK2.out) hb); have n3_ := Aside0.mk (below_step (by repeat (first | (with_reducible first | exact HB.out | apply yA_ | apply yN_ | apply yD_ | refine yS_ ?_ GE0.out | refine yS_ ?_ GE1.out | refine yS_ ?_ GE2.out) | exact HB.out)) hb); clear BK0; clear BK1; clear BK2; clear HB; have BK0 := n0_; have BK1 := n1_; have BK2 := n2_; have HB := n3_; clear n0_ n1_ n2_ n3_; (try clear hb); have uz10_0 : w45.cell? ⟨gb2, 0, none⟩ = some (.int .i64 t452) := (xC_ BK2.out 0).trans rfl; have uz10_1 : w45.cell? ⟨gb2, 1, none⟩ = some (.int .i64 t453) := (xC_ BK2.out 1).trans rfl; have uz10_2 : w45.cell? ⟨gb2, 2, none⟩ = some (.int .i64 t454) := (xC_ BK2.out 2).trans rfl; have uz10_3 : w45.cell? ⟨gb2, 3, none⟩ = some (.string t455) := (xC_ BK2.out 3).trans rfl; have uz10_4 : w45.cell? ⟨gb2, 4, none⟩ = some (.string t456) := (xC_ BK2.out 4).trans rfl; have fz10_0 := xF_ BK2.out 0; have fz10_1 := xF_ BK2.out 1; have fz10_2 := xF_ BK2.out 2; have fz10_3 := xF_ BK2.out 3; have fz10_4 := xF_ BK2.out 4))
            go_meet
            case rel => exact ⟨_, ((t453 != 0)), (by first | rfl | (simp; done) | (simp [*]; done)), H', ⟨by have := HJ3.out; first | omega | exact Nat.le_refl _⟩, ⟨by (with_reducible repeat (first | apply xN_ | apply xD_ | apply xA_)); exact BK0.out⟩, ⟨by (with_reducible repeat (first | apply xN_ | apply xD_ | apply xA_)); exact BK1.out⟩, ⟨by (with_reducible repeat (first | apply xN_ | apply xD_ | apply xA_)); exact BK2.out⟩, ⟨by repeat (first | (with_reducible first | exact HB.out | apply yA_ | apply yN_ | apply yD_ | refine yS_ ?_ GE0.out | refine yS_ ?_ GE1.out | refine yS_ ?_ GE2.out) | exact HB.out)⟩⟩
           ·rw [if_neg c39] at H
            have c39b0 : (a1 == 3) = false := beq_eq_false_iff_ne.mpr c39
            have c39b1 : (a1 != 3) = true := bne_iff_ne.mpr c39
            have H' := Aside0.mk H
            clear H
            have hnb47 := NB2_0.out
            have hnc47 := NB0_2.out
            have hnb48 := NB2_1.out
            have hnc48 := NB1_2.out
            have uz11_0 : w29.cell? ⟨gb2, 0, none⟩ = some (.int .i64 0) := (xC_ BK2.out 0).trans rfl
            have uz11_1 : w29.cell? ⟨gb2, 1, none⟩ = some (.int .i64 0) := (xC_ BK2.out 1).trans rfl
            have uz11_2 : w29.cell? ⟨gb2, 2, none⟩ = some (.int .i64 0) := (xC_ BK2.out 2).trans rfl
            have uz11_3 : w29.cell? ⟨gb2, 3, none⟩ = some (.string (⟨#[]⟩ : ByteArray)) := (xC_ BK2.out 3).trans rfl
            have uz11_4 : w29.cell? ⟨gb2, 4, none⟩ = some (.string (⟨#[]⟩ : ByteArray)) := (xC_ BK2.out 4).trans rfl
            have fz11_0 := xF_ BK2.out 0
            have fz11_1 := xF_ BK2.out 1
            have fz11_2 := xF_ BK2.out 2
            have fz11_3 := xF_ BK2.out 3
            have fz11_4 := xF_ BK2.out 4
            have hnb50 := NB0_1.out
            have hnc50 := NB1_0.out
            have uz12_0 : w29.cell? ⟨gb0, 0, none⟩ = some (.int .i64 a0_0) := (xC_ BK0.out 0).trans rfl
            have uz12_1 : w29.cell? ⟨gb0, 1, none⟩ = some (.int .i64 a0_1) := (xC_ BK0.out 1).trans rfl
            have uz12_2 : w29.cell? ⟨gb0, 2, none⟩ = some (.int .i64 a0_2) := (xC_ BK0.out 2).trans rfl
            have uz12_3 : w29.cell? ⟨gb0, 3, none⟩ = some (.string a0_3) := (xC_ BK0.out 3).trans rfl
            have uz12_4 : w29.cell? ⟨gb0, 4, none⟩ = some (.string a0_4) := (xC_ BK0.out 4).trans rfl
            have fz12_0 := xF_ BK0.out 0
            have fz12_1 := xF_ BK0.out 1
            have fz12_2 := xF_ BK0.out 2
            have fz12_3 := xF_ BK0.out 3
            have fz12_4 := xF_ BK0.out 4
            go_wp2_with (first | ((with_reducible refine gate_callee (f := 19) rfl ?_); refine goesL_ (some 68) rfl rfl Tryd.func19 (by kernel_rfl) rfl #[.agg #[.int .i64 t452, .int .i64 t453, .int .i64 t454, .string t455, .string t456], .agg #[.int .i64 a0_0, .int .i64 a0_1, .int .i64 a0_2, .string a0_3, .string a0_4]] rfl (by (try simp only [List.map_toArray, List.map_cons, List.map_nil]); first | done | rfl) ?_; (with_reducible refine (ver_Compare.calls kj3 t452 t453 t454 t455 t456 a0_0 a0_1 a0_2 a0_3 a0_4 t464 _ A33.out).mono ?_); rintro e w52 ⟨rfl, hb⟩; refine ⟨_, rfl, ?_⟩; have n0_ := Aside0.mk (blk_below (g := gb0) (o := .cells #[.int .i64 a0_0, .int .i64 a0_1, .int .i64 a0_2, .string a0_3, .string a0_4] 23 (0, 0)) (by (with_reducible repeat (first | apply xN_ | apply xD_ | apply xA_)); refine xR_ ?_ NB0_2.out _; refine xR_ ?_ NB0_2.out _; refine xR_ ?_ NB0_2.out _; refine xR_ ?_ NB0_2.out _; refine xR_ ?_ NB0_2.out _; (with_reducible repeat (first | apply xN_ | apply xD_ | apply xA_)); exact BK0.out) hb); have n1_ := Aside0.mk (blk_below (g := gb1) (o := .cells #[.int .i64 a2_0, .int .i64 a2_1, .int .i64 a2_2, .string a2_3, .string a2_4] 23 (0, 0)) (by (with_reducible repeat (first | apply xN_ | apply xD_ | apply xA_)); refine xR_ ?_ NB1_2.out _; refine xR_ ?_ NB1_2.out _; refine xR_ ?_ NB1_2.out _; refine xR_ ?_ NB1_2.out _; refine xR_ ?_ NB1_2.out _; (with_reducible repeat (first | apply xN_ | apply xD_ | apply xA_)); exact BK1.out) hb); have n2_ := Aside0.mk (blk_below (g := gb2) (o := .cells #[.int .i64 t452, .int .i64 t453, .int .i64 t454, .string t455, .string t456] 23 (0, 0)) (by (with_reducible repeat (first | apply xN_ | apply xD_ | apply xA_)); refine blk_put (cs := #[.int .i64 t452, .int .i64 t453, .int .i64 t454, .string t455, .string (⟨#[]⟩ : ByteArray)]) ?_ 4 _ rfl; refine blk_put (cs := #[.int .i64 t452, .int .i64 t453, .int .i64 t454, .string (⟨#[]⟩ : ByteArray), .string (⟨#[]⟩ : ByteArray)]) ?_ 3 _ rfl; refine blk_put (cs := #[.int .i64 t452, .int .i64 t453, .int .i64 0, .string (⟨#[]⟩ : ByteArray), .string (⟨#[]⟩ : ByteArray)]) ?_ 2 _ rfl; refine blk_put (cs := #[.int .i64 t452, .int .i64 0, .int .i64 0, .string (⟨#[]⟩ : ByteArray), .string (⟨#[]⟩ : ByteArray)]) ?_ 1 _ rfl; refine blk_put (cs := #[.int .i64 0, .int .i64 0, .int .i64 0, .string (⟨#[]⟩ : ByteArray), .string (⟨#[]⟩ : ByteArray)]) ?_ 0 _ rfl; (with_reducible repeat (first | apply xN_ | apply xD_ | apply xA_)); exact BK2.out) hb); have n3_ := Aside0.mk (below_step (by repeat (first | (with_reducible first | exact HB.out | apply yA_ | apply yN_ | apply yD_ | refine yS_ ?_ GE0.out | refine yS_ ?_ GE1.out | refine yS_ ?_ GE2.out) | exact HB.out)) hb); clear BK0; clear BK1; clear BK2; clear HB; have BK0 := n0_; have BK1 := n1_; have BK2 := n2_; have HB := n3_; clear n0_ n1_ n2_ n3_; (try clear hb); have uz13_0 : w52.cell? ⟨gb2, 0, none⟩ = some (.int .i64 t452) := (xC_ BK2.out 0).trans rfl; have uz13_1 : w52.cell? ⟨gb2, 1, none⟩ = some (.int .i64 t453) := (xC_ BK2.out 1).trans rfl; have uz13_2 : w52.cell? ⟨gb2, 2, none⟩ = some (.int .i64 t454) := (xC_ BK2.out 2).trans rfl; have uz13_3 : w52.cell? ⟨gb2, 3, none⟩ = some (.string t455) := (xC_ BK2.out 3).trans rfl; have uz13_4 : w52.cell? ⟨gb2, 4, none⟩ = some (.string t456) := (xC_ BK2.out 4).trans rfl; have fz13_0 := xF_ BK2.out 0; have fz13_1 := xF_ BK2.out 1; have fz13_2 := xF_ BK2.out 2; have fz13_3 := xF_ BK2.out 3; have fz13_4 := xF_ BK2.out 4))
            go_meet
            case rel => exact ⟨_, (false), (by first | rfl | (simp; done) | (simp [*]; done)), H', ⟨by have := HJ3.out; first | omega | exact Nat.le_refl _⟩, ⟨by (with_reducible repeat (first | apply xN_ | apply xD_ | apply xA_)); exact BK0.out⟩, ⟨by (with_reducible repeat (first | apply xN_ | apply xD_ | apply xA_)); exact BK1.out⟩, ⟨by (with_reducible repeat (first | apply xN_ | apply xD_ | apply xA_)); exact BK2.out⟩, ⟨by repeat (first | (with_reducible first | exact HB.out | apply yA_ | apply yN_ | apply yD_ | refine yS_ ?_ GE0.out | refine yS_ ?_ GE1.out | refine yS_ ?_ GE2.out) | exact HB.out)⟩⟩
          ·rw [if_neg c38] at H
           have c38b0 : (t454 == 0) = false := beq_eq_false_iff_ne.mpr c38
           have c38b1 : (t454 != 0) = true := bne_iff_ne.mpr c38
           have H' := Aside0.mk H
           clear H
           have hnb54 := NB2_0.out
           have hnc54 := NB0_2.out
           have hnb55 := NB2_1.out
           have hnc55 := NB1_2.out
           have uz14_0 : w29.cell? ⟨gb2, 0, none⟩ = some (.int .i64 0) := (xC_ BK2.out 0).trans rfl
           have uz14_1 : w29.cell? ⟨gb2, 1, none⟩ = some (.int .i64 0) := (xC_ BK2.out 1).trans rfl
           have uz14_2 : w29.cell? ⟨gb2, 2, none⟩ = some (.int .i64 0) := (xC_ BK2.out 2).trans rfl
           have uz14_3 : w29.cell? ⟨gb2, 3, none⟩ = some (.string (⟨#[]⟩ : ByteArray)) := (xC_ BK2.out 3).trans rfl
           have uz14_4 : w29.cell? ⟨gb2, 4, none⟩ = some (.string (⟨#[]⟩ : ByteArray)) := (xC_ BK2.out 4).trans rfl
           have fz14_0 := xF_ BK2.out 0
           have fz14_1 := xF_ BK2.out 1
           have fz14_2 := xF_ BK2.out 2
           have fz14_3 := xF_ BK2.out 3
           have fz14_4 := xF_ BK2.out 4
           have hnb57 := NB0_1.out
           have hnc57 := NB1_0.out
           have uz15_0 : w29.cell? ⟨gb0, 0, none⟩ = some (.int .i64 a0_0) := (xC_ BK0.out 0).trans rfl
           have uz15_1 : w29.cell? ⟨gb0, 1, none⟩ = some (.int .i64 a0_1) := (xC_ BK0.out 1).trans rfl
           have uz15_2 : w29.cell? ⟨gb0, 2, none⟩ = some (.int .i64 a0_2) := (xC_ BK0.out 2).trans rfl
           have uz15_3 : w29.cell? ⟨gb0, 3, none⟩ = some (.string a0_3) := (xC_ BK0.out 3).trans rfl
           have uz15_4 : w29.cell? ⟨gb0, 4, none⟩ = some (.string a0_4) := (xC_ BK0.out 4).trans rfl
           have fz15_0 := xF_ BK0.out 0
           have fz15_1 := xF_ BK0.out 1
           have fz15_2 := xF_ BK0.out 2
           have fz15_3 := xF_ BK0.out 3
           have fz15_4 := xF_ BK0.out 4
           go_wp2_with (first | ((with_reducible refine gate_callee (f := 19) rfl ?_); refine goesL_ (some 68) rfl rfl Tryd.func19 (by kernel_rfl) rfl #[.agg #[.int .i64 t452, .int .i64 t453, .int .i64 t454, .string t455, .string t456], .agg #[.int .i64 a0_0, .int .i64 a0_1, .int .i64 a0_2, .string a0_3, .string a0_4]] rfl (by (try simp only [List.map_toArray, List.map_cons, List.map_nil]); first | done | rfl) ?_; (with_reducible refine (ver_Compare.calls kj3 t452 t453 t454 t455 t456 a0_0 a0_1 a0_2 a0_3 a0_4 t464 _ A33.out).mono ?_); rintro e w59 ⟨rfl, hb⟩; refine ⟨_, rfl, ?_⟩; have n0_ := Aside0.mk (blk_below (g := gb0) (o := .cells #[.int .i64 a0_0, .int .i64 a0_1, .int .i64 a0_2, .string a0_3, .string a0_4] 23 (0, 0)) (by (with_reducible repeat (first | apply xN_ | apply xD_ | apply xA_)); refine xR_ ?_ NB0_2.out _; refine xR_ ?_ NB0_2.out _; refine xR_ ?_ NB0_2.out _; refine xR_ ?_ NB0_2.out _; refine xR_ ?_ NB0_2.out _; (with_reducible repeat (first | apply xN_ | apply xD_ | apply xA_)); exact BK0.out) hb); have n1_ := Aside0.mk (blk_below (g := gb1) (o := .cells #[.int .i64 a2_0, .int .i64 a2_1, .int .i64 a2_2, .string a2_3, .string a2_4] 23 (0, 0)) (by (with_reducible repeat (first | apply xN_ | apply xD_ | apply xA_)); refine xR_ ?_ NB1_2.out _; refine xR_ ?_ NB1_2.out _; refine xR_ ?_ NB1_2.out _; refine xR_ ?_ NB1_2.out _; refine xR_ ?_ NB1_2.out _; (with_reducible repeat (first | apply xN_ | apply xD_ | apply xA_)); exact BK1.out) hb); have n2_ := Aside0.mk (blk_below (g := gb2) (o := .cells #[.int .i64 t452, .int .i64 t453, .int .i64 t454, .string t455, .string t456] 23 (0, 0)) (by (with_reducible repeat (first | apply xN_ | apply xD_ | apply xA_)); refine blk_put (cs := #[.int .i64 t452, .int .i64 t453, .int .i64 t454, .string t455, .string (⟨#[]⟩ : ByteArray)]) ?_ 4 _ rfl; refine blk_put (cs := #[.int .i64 t452, .int .i64 t453, .int .i64 t454, .string (⟨#[]⟩ : ByteArray), .string (⟨#[]⟩ : ByteArray)]) ?_ 3 _ rfl; refine blk_put (cs := #[.int .i64 t452, .int .i64 t453, .int .i64 0, .string (⟨#[]⟩ : ByteArray), .string (⟨#[]⟩ : ByteArray)]) ?_ 2 _ rfl; refine blk_put (cs := #[.int .i64 t452, .int .i64 0, .int .i64 0, .string (⟨#[]⟩ : ByteArray), .string (⟨#[]⟩ : ByteArray)]) ?_ 1 _ rfl; refine blk_put (cs := #[.int .i64 0, .int .i64 0, .int .i64 0, .string (⟨#[]⟩ : ByteArray), .string (⟨#[]⟩ : ByteArray)]) ?_ 0 _ rfl; (with_reducible repeat (first | apply xN_ | apply xD_ | apply xA_)); exact BK2.out) hb); have n3_ := Aside0.mk (below_step (by repeat (first | (with_reducible first | exact HB.out | apply yA_ | apply yN_ | apply yD_ | refine yS_ ?_ GE0.out | refine yS_ ?_ GE1.out | refine yS_ ?_ GE2.out) | exact HB.out)) hb); clear BK0; clear BK1; clear BK2; clear HB; have BK0 := n0_; have BK1 := n1_; have BK2 := n2_; have HB := n3_; clear n0_ n1_ n2_ n3_; (try clear hb); have uz16_0 : w59.cell? ⟨gb2, 0, none⟩ = some (.int .i64 t452) := (xC_ BK2.out 0).trans rfl; have uz16_1 : w59.cell? ⟨gb2, 1, none⟩ = some (.int .i64 t453) := (xC_ BK2.out 1).trans rfl; have uz16_2 : w59.cell? ⟨gb2, 2, none⟩ = some (.int .i64 t454) := (xC_ BK2.out 2).trans rfl; have uz16_3 : w59.cell? ⟨gb2, 3, none⟩ = some (.string t455) := (xC_ BK2.out 3).trans rfl; have uz16_4 : w59.cell? ⟨gb2, 4, none⟩ = some (.string t456) := (xC_ BK2.out 4).trans rfl; have fz16_0 := xF_ BK2.out 0; have fz16_1 := xF_ BK2.out 1; have fz16_2 := xF_ BK2.out 2; have fz16_3 := xF_ BK2.out 3; have fz16_4 := xF_ BK2.out 4))
           go_meet
           case rel => exact ⟨_, (true), (by first | rfl | (simp; done) | (simp [*]; done)), H', ⟨by have := HJ3.out; first | omega | exact Nat.le_refl _⟩, ⟨by (with_reducible repeat (first | apply xN_ | apply xD_ | apply xA_)); exact BK0.out⟩, ⟨by (with_reducible repeat (first | apply xN_ | apply xD_ | apply xA_)); exact BK1.out⟩, ⟨by (with_reducible repeat (first | apply xN_ | apply xD_ | apply xA_)); exact BK2.out⟩, ⟨by repeat (first | (with_reducible first | exact HB.out | apply yA_ | apply yN_ | apply yD_ | refine yS_ ?_ GE0.out | refine yS_ ?_ GE1.out | refine yS_ ?_ GE2.out) | exact HB.out)⟩⟩
         ·rw [if_neg c37] at H
          have c37b0 : decide (2 ≤ a1) = false := decide_eq_false c37
          clear c37
          by_cases c61 : a1 = 3
          ·rw [if_pos c61] at H
           have c61b0 : (a1 == 3) = true := beq_iff_eq.mpr c61
           have c61b1 : (a1 != 3) = false := bne_eq_false_iff_eq.mpr c61
           clear c61
           have H' := Aside0.mk H
           clear H
           have hnb62 := NB2_0.out
           have hnc62 := NB0_2.out
           have hnb63 := NB2_1.out
           have hnc63 := NB1_2.out
           have uz17_0 : w29.cell? ⟨gb2, 0, none⟩ = some (.int .i64 0) := (xC_ BK2.out 0).trans rfl
           have uz17_1 : w29.cell? ⟨gb2, 1, none⟩ = some (.int .i64 0) := (xC_ BK2.out 1).trans rfl
           have uz17_2 : w29.cell? ⟨gb2, 2, none⟩ = some (.int .i64 0) := (xC_ BK2.out 2).trans rfl
           have uz17_3 : w29.cell? ⟨gb2, 3, none⟩ = some (.string (⟨#[]⟩ : ByteArray)) := (xC_ BK2.out 3).trans rfl
           have uz17_4 : w29.cell? ⟨gb2, 4, none⟩ = some (.string (⟨#[]⟩ : ByteArray)) := (xC_ BK2.out 4).trans rfl
           have fz17_0 := xF_ BK2.out 0
           have fz17_1 := xF_ BK2.out 1
           have fz17_2 := xF_ BK2.out 2
           have fz17_3 := xF_ BK2.out 3
           have fz17_4 := xF_ BK2.out 4
           have hnb65 := NB0_1.out
           have hnc65 := NB1_0.out
           have uz18_0 : w29.cell? ⟨gb0, 0, none⟩ = some (.int .i64 a0_0) := (xC_ BK0.out 0).trans rfl
           have uz18_1 : w29.cell? ⟨gb0, 1, none⟩ = some (.int .i64 a0_1) := (xC_ BK0.out 1).trans rfl
           have uz18_2 : w29.cell? ⟨gb0, 2, none⟩ = some (.int .i64 a0_2) := (xC_ BK0.out 2).trans rfl
           have uz18_3 : w29.cell? ⟨gb0, 3, none⟩ = some (.string a0_3) := (xC_ BK0.out 3).trans rfl
           have uz18_4 : w29.cell? ⟨gb0, 4, none⟩ = some (.string a0_4) := (xC_ BK0.out 4).trans rfl
           have fz18_0 := xF_ BK0.out 0
           have fz18_1 := xF_ BK0.out 1
           have fz18_2 := xF_ BK0.out 2
           have fz18_3 := xF_ BK0.out 3
           have fz18_4 := xF_ BK0.out 4
           go_wp2_with (first | ((with_reducible refine gate_callee (f := 19) rfl ?_); refine goesL_ (some 68) rfl rfl Tryd.func19 (by kernel_rfl) rfl #[.agg #[.int .i64 t452, .int .i64 t453, .int .i64 t454, .string t455, .string t456], .agg #[.int .i64 a0_0, .int .i64 a0_1, .int .i64 a0_2, .string a0_3, .string a0_4]] rfl (by (try simp only [List.map_toArray, List.map_cons, List.map_nil]); first | done | rfl) ?_; (with_reducible refine (ver_Compare.calls kj3 t452 t453 t454 t455 t456 a0_0 a0_1 a0_2 a0_3 a0_4 t464 _ A33.out).mono ?_); rintro e w67 ⟨rfl, hb⟩; refine ⟨_, rfl, ?_⟩; have n0_ := Aside0.mk (blk_below (g := gb0) (o := .cells #[.int .i64 a0_0, .int .i64 a0_1, .int .i64 a0_2, .string a0_3, .string a0_4] 23 (0, 0)) (by (with_reducible repeat (first | apply xN_ | apply xD_ | apply xA_)); refine xR_ ?_ NB0_2.out _; refine xR_ ?_ NB0_2.out _; refine xR_ ?_ NB0_2.out _; refine xR_ ?_ NB0_2.out _; refine xR_ ?_ NB0_2.out _; (with_reducible repeat (first | apply xN_ | apply xD_ | apply xA_)); exact BK0.out) hb); have n1_ := Aside0.mk (blk_below (g := gb1) (o := .cells #[.int .i64 a2_0, .int .i64 a2_1, .int .i64 a2_2, .string a2_3, .string a2_4] 23 (0, 0)) (by (with_reducible repeat (first | apply xN_ | apply xD_ | apply xA_)); refine xR_ ?_ NB1_2.out _; refine xR_ ?_ NB1_2.out _; refine xR_ ?_ NB1_2.out _; refine xR_ ?_ NB1_2.out _; refine xR_ ?_ NB1_2.out _; (with_reducible repeat (first | apply xN_ | apply xD_ | apply xA_)); exact BK1.out) hb); have n2_ := Aside0.mk (blk_below (g := gb2) (o := .cells #[.int .i64 t452, .int .i64 t453, .int .i64 t454, .string t455, .string t456] 23 (0, 0)) (by (with_reducible repeat (first | apply xN_ | apply xD_ | apply xA_)); refine blk_put (cs := #[.int .i64 t452, .int .i64 t453, .int .i64 t454, .string t455, .string (⟨#[]⟩ : ByteArray)]) ?_ 4 _ rfl; refine blk_put (cs := #[.int .i64 t452, .int .i64 t453, .int .i64 t454, .string (⟨#[]⟩ : ByteArray), .string (⟨#[]⟩ : ByteArray)]) ?_ 3 _ rfl; refine blk_put (cs := #[.int .i64 t452, .int .i64 t453, .int .i64 0, .string (⟨#[]⟩ : ByteArray), .string (⟨#[]⟩ : ByteArray)]) ?_ 2 _ rfl; refine blk_put (cs := #[.int .i64 t452, .int .i64 0, .int .i64 0, .string (⟨#[]⟩ : ByteArray), .string (⟨#[]⟩ : ByteArray)]) ?_ 1 _ rfl; refine blk_put (cs := #[.int .i64 0, .int .i64 0, .int .i64 0, .string (⟨#[]⟩ : ByteArray), .string (⟨#[]⟩ : ByteArray)]) ?_ 0 _ rfl; (with_reducible repeat (first | apply xN_ | apply xD_ | apply xA_)); exact BK2.out) hb); have n3_ := Aside0.mk (below_step (by repeat (first | (with_reducible first | exact HB.out | apply yA_ | apply yN_ | apply yD_ | refine yS_ ?_ GE0.out | refine yS_ ?_ GE1.out | refine yS_ ?_ GE2.out) | exact HB.out)) hb); clear BK0; clear BK1; clear BK2; clear HB; have BK0 := n0_; have BK1 := n1_; have BK2 := n2_; have HB := n3_; clear n0_ n1_ n2_ n3_; (try clear hb); have uz19_0 : w67.cell? ⟨gb2, 0, none⟩ = some (.int .i64 t452) := (xC_ BK2.out 0).trans rfl; have uz19_1 : w67.cell? ⟨gb2, 1, none⟩ = some (.int .i64 t453) := (xC_ BK2.out 1).trans rfl; have uz19_2 : w67.cell? ⟨gb2, 2, none⟩ = some (.int .i64 t454) := (xC_ BK2.out 2).trans rfl; have uz19_3 : w67.cell? ⟨gb2, 3, none⟩ = some (.string t455) := (xC_ BK2.out 3).trans rfl; have uz19_4 : w67.cell? ⟨gb2, 4, none⟩ = some (.string t456) := (xC_ BK2.out 4).trans rfl; have fz19_0 := xF_ BK2.out 0; have fz19_1 := xF_ BK2.out 1; have fz19_2 := xF_ BK2.out 2; have fz19_3 := xF_ BK2.out 3; have fz19_4 := xF_ BK2.out 4))
           go_meet
           case rel => exact ⟨_, ((t453 != 0)), (by first | rfl | (simp; done) | (simp [*]; done)), H', ⟨by have := HJ3.out; first | omega | exact Nat.le_refl _⟩, ⟨by (with_reducible repeat (first | apply xN_ | apply xD_ | apply xA_)); exact BK0.out⟩, ⟨by (with_reducible repeat (first | apply xN_ | apply xD_ | apply xA_)); exact BK1.out⟩, ⟨by (with_reducible repeat (first | apply xN_ | apply xD_ | apply xA_)); exact BK2.out⟩, ⟨by repeat (first | (with_reducible first | exact HB.out | apply yA_ | apply yN_ | apply yD_ | refine yS_ ?_ GE0.out | refine yS_ ?_ GE1.out | refine yS_ ?_ GE2.out) | exact HB.out)⟩⟩
          ·rw [if_neg c61] at H
           have c61b0 : (a1 == 3) = false := beq_eq_false_iff_ne.mpr c61
           have c61b1 : (a1 != 3) = true := bne_iff_ne.mpr c61
           have H' := Aside0.mk H
           clear H
           have hnb69 := NB2_0.out
           have hnc69 := NB0_2.out
           have hnb70 := NB2_1.out
           have hnc70 := NB1_2.out
           have uz20_0 : w29.cell? ⟨gb2, 0, none⟩ = some (.int .i64 0) := (xC_ BK2.out 0).trans rfl
           have uz20_1 : w29.cell? ⟨gb2, 1, none⟩ = some (.int .i64 0) := (xC_ BK2.out 1).trans rfl
           have uz20_2 : w29.cell? ⟨gb2, 2, none⟩ = some (.int .i64 0) := (xC_ BK2.out 2).trans rfl
           have uz20_3 : w29.cell? ⟨gb2, 3, none⟩ = some (.string (⟨#[]⟩ : ByteArray)) := (xC_ BK2.out 3).trans rfl
           have uz20_4 : w29.cell? ⟨gb2, 4, none⟩ = some (.string (⟨#[]⟩ : ByteArray)) := (xC_ BK2.out 4).trans rfl
           have fz20_0 := xF_ BK2.out 0
           have fz20_1 := xF_ BK2.out 1
           have fz20_2 := xF_ BK2.out 2
           have fz20_3 := xF_ BK2.out 3
           have fz20_4 := xF_ BK2.out 4
           have hnb72 := NB0_1.out
           have hnc72 := NB1_0.out
           have uz21_0 : w29.cell? ⟨gb0, 0, none⟩ = some (.int .i64 a0_0) := (xC_ BK0.out 0).trans rfl
           have uz21_1 : w29.cell? ⟨gb0, 1, none⟩ = some (.int .i64 a0_1) := (xC_ BK0.out 1).trans rfl
           have uz21_2 : w29.cell? ⟨gb0, 2, none⟩ = some (.int .i64 a0_2) := (xC_ BK0.out 2).trans rfl
           have uz21_3 : w29.cell? ⟨gb0, 3, none⟩ = some (.string a0_3) := (xC_ BK0.out 3).trans rfl
           have uz21_4 : w29.cell? ⟨gb0, 4, none⟩ = some (.string a0_4) := (xC_ BK0.out 4).trans rfl
           have fz21_0 := xF_ BK0.out 0
           have fz21_1 := xF_ BK0.out 1
           have fz21_2 := xF_ BK0.out 2
           have fz21_3 := xF_ BK0.out 3
           have fz21_4 := xF_ BK0.out 4
           go_wp2_with (first | ((with_reducible refine gate_callee (f := 19) rfl ?_); refine goesL_ (some 68) rfl rfl Tryd.func19 (by kernel_rfl) rfl #[.agg #[.int .i64 t452, .int .i64 t453, .int .i64 t454, .string t455, .string t456], .agg #[.int .i64 a0_0, .int .i64 a0_1, .int .i64 a0_2, .string a0_3, .string a0_4]] rfl (by (try simp only [List.map_toArray, List.map_cons, List.map_nil]); first | done | rfl) ?_; (with_reducible refine (ver_Compare.calls kj3 t452 t453 t454 t455 t456 a0_0 a0_1 a0_2 a0_3 a0_4 t464 _ A33.out).mono ?_); rintro e w74 ⟨rfl, hb⟩; refine ⟨_, rfl, ?_⟩; have n0_ := Aside0.mk (blk_below (g := gb0) (o := .cells #[.int .i64 a0_0, .int .i64 a0_1, .int .i64 a0_2, .string a0_3, .string a0_4] 23 (0, 0)) (by (with_reducible repeat (first | apply xN_ | apply xD_ | apply xA_)); refine xR_ ?_ NB0_2.out _; refine xR_ ?_ NB0_2.out _; refine xR_ ?_ NB0_2.out _; refine xR_ ?_ NB0_2.out _; refine xR_ ?_ NB0_2.out _; (with_reducible repeat (first | apply xN_ | apply xD_ | apply xA_)); exact BK0.out) hb); have n1_ := Aside0.mk (blk_below (g := gb1) (o := .cells #[.int .i64 a2_0, .int .i64 a2_1, .int .i64 a2_2, .string a2_3, .string a2_4] 23 (0, 0)) (by (with_reducible repeat (first | apply xN_ | apply xD_ | apply xA_)); refine xR_ ?_ NB1_2.out _; refine xR_ ?_ NB1_2.out _; refine xR_ ?_ NB1_2.out _; refine xR_ ?_ NB1_2.out _; refine xR_ ?_ NB1_2.out _; (with_reducible repeat (first | apply xN_ | apply xD_ | apply xA_)); exact BK1.out) hb); have n2_ := Aside0.mk (blk_below (g := gb2) (o := .cells #[.int .i64 t452, .int .i64 t453, .int .i64 t454, .string t455, .string t456] 23 (0, 0)) (by (with_reducible repeat (first | apply xN_ | apply xD_ | apply xA_)); refine blk_put (cs := #[.int .i64 t452, .int .i64 t453, .int .i64 t454, .string t455, .string (⟨#[]⟩ : ByteArray)]) ?_ 4 _ rfl; refine blk_put (cs := #[.int .i64 t452, .int .i64 t453, .int .i64 t454, .string (⟨#[]⟩ : ByteArray), .string (⟨#[]⟩ : ByteArray)]) ?_ 3 _ rfl; refine blk_put (cs := #[.int .i64 t452, .int .i64 t453, .int .i64 0, .string (⟨#[]⟩ : ByteArray), .string (⟨#[]⟩ : ByteArray)]) ?_ 2 _ rfl; refine blk_put (cs := #[.int .i64 t452, .int .i64 0, .int .i64 0, .string (⟨#[]⟩ : ByteArray), .string (⟨#[]⟩ : ByteArray)]) ?_ 1 _ rfl; refine blk_put (cs := #[.int .i64 0, .int .i64 0, .int .i64 0, .string (⟨#[]⟩ : ByteArray), .string (⟨#[]⟩ : ByteArray)]) ?_ 0 _ rfl; (with_reducible repeat (first | apply xN_ | apply xD_ | apply xA_)); exact BK2.out) hb); have n3_ := Aside0.mk (below_step (by repeat (first | (with_reducible first | exact HB.out | apply yA_ | apply yN_ | apply yD_ | refine yS_ ?_ GE0.out | refine yS_ ?_ GE1.out | refine yS_ ?_ GE2.out) | exact HB.out)) hb); clear BK0; clear BK1; clear BK2; clear HB; have BK0 := n0_; have BK1 := n1_; have BK2 := n2_; have HB := n3_; clear n0_ n1_ n2_ n3_; (try clear hb); have uz22_0 : w74.cell? ⟨gb2, 0, none⟩ = some (.int .i64 t452) := (xC_ BK2.out 0).trans rfl; have uz22_1 : w74.cell? ⟨gb2, 1, none⟩ = some (.int .i64 t453) := (xC_ BK2.out 1).trans rfl; have uz22_2 : w74.cell? ⟨gb2, 2, none⟩ = some (.int .i64 t454) := (xC_ BK2.out 2).trans rfl; have uz22_3 : w74.cell? ⟨gb2, 3, none⟩ = some (.string t455) := (xC_ BK2.out 3).trans rfl; have uz22_4 : w74.cell? ⟨gb2, 4, none⟩ = some (.string t456) := (xC_ BK2.out 4).trans rfl; have fz22_0 := xF_ BK2.out 0; have fz22_1 := xF_ BK2.out 1; have fz22_2 := xF_ BK2.out 2; have fz22_3 := xF_ BK2.out 3; have fz22_4 := xF_ BK2.out 4))
           go_meet
           case rel => exact ⟨_, (false), (by first | rfl | (simp; done) | (simp [*]; done)), H', ⟨by have := HJ3.out; first | omega | exact Nat.le_refl _⟩, ⟨by (with_reducible repeat (first | apply xN_ | apply xD_ | apply xA_)); exact BK0.out⟩, ⟨by (with_reducible repeat (first | apply xN_ | apply xD_ | apply xA_)); exact BK1.out⟩, ⟨by (with_reducible repeat (first | apply xN_ | apply xD_ | apply xA_)); exact BK2.out⟩, ⟨by repeat (first | (with_reducible first | exact HB.out | apply yA_ | apply yN_ | apply yD_ | refine yS_ ?_ GE0.out | refine yS_ ?_ GE1.out | refine yS_ ?_ GE2.out) | exact HB.out)⟩⟩
        ·rw [if_neg c36] at H
         have c36b0 : (t456.toList == ([] : List UInt8)) = false := beq_eq_false_iff_ne.mpr c36
         have c36be : t456.toList.isEmpty = false := by simpa using c36b0
         (try rw [c36be])
         (try simp only [Bool.not_true, Bool.not_false])
         have c36b1 : (t456.toList != ([] : List UInt8)) = true := bne_iff_ne.mpr c36
         have H' := Aside0.mk H
         clear H
         have hnb76 := NB2_0.out
         have hnc76 := NB0_2.out
         have hnb77 := NB2_1.out
         have hnc77 := NB1_2.out
         have uz23_0 : w29.cell? ⟨gb2, 0, none⟩ = some (.int .i64 0) := (xC_ BK2.out 0).trans rfl
         have uz23_1 : w29.cell? ⟨gb2, 1, none⟩ = some (.int .i64 0) := (xC_ BK2.out 1).trans rfl
         have uz23_2 : w29.cell? ⟨gb2, 2, none⟩ = some (.int .i64 0) := (xC_ BK2.out 2).trans rfl
         have uz23_3 : w29.cell? ⟨gb2, 3, none⟩ = some (.string (⟨#[]⟩ : ByteArray)) := (xC_ BK2.out 3).trans rfl
         have uz23_4 : w29.cell? ⟨gb2, 4, none⟩ = some (.string (⟨#[]⟩ : ByteArray)) := (xC_ BK2.out 4).trans rfl
         have fz23_0 := xF_ BK2.out 0
         have fz23_1 := xF_ BK2.out 1
         have fz23_2 := xF_ BK2.out 2
         have fz23_3 := xF_ BK2.out 3
         have fz23_4 := xF_ BK2.out 4
         have hnb79 := NB0_1.out
         have hnc79 := NB1_0.out
         have uz24_0 : w29.cell? ⟨gb0, 0, none⟩ = some (.int .i64 a0_0) := (xC_ BK0.out 0).trans rfl
         have uz24_1 : w29.cell? ⟨gb0, 1, none⟩ = some (.int .i64 a0_1) := (xC_ BK0.out 1).trans rfl
         have uz24_2 : w29.cell? ⟨gb0, 2, none⟩ = some (.int .i64 a0_2) := (xC_ BK0.out 2).trans rfl
         have uz24_3 : w29.cell? ⟨gb0, 3, none⟩ = some (.string a0_3) := (xC_ BK0.out 3).trans rfl
         have uz24_4 : w29.cell? ⟨gb0, 4, none⟩ = some (.string a0_4) := (xC_ BK0.out 4).trans rfl
         have fz24_0 := xF_ BK0.out 0
         have fz24_1 := xF_ BK0.out 1
         have fz24_2 := xF_ BK0.out 2
         have fz24_3 := xF_ BK0.out 3
         have fz24_4 := xF_ BK0.out 4
         go_wp2_with (first | ((with_reducible refine gate_callee (f := 19) rfl ?_); refine goesL_ (some 68) rfl rfl Tryd.func19 (by kernel_rfl) rfl #[.agg #[.int .i64 t452, .int .i64 t453, .int .i64 t454, .string t455, .string t456], .agg #[.int .i64 a0_0, .int .i64 a0_1, .int .i64 a0_2, .string a0_3, .string a0_4]] rfl (by (try simp only [List.map_toArray, List.map_cons, List.map_nil]); first | done | rfl) ?_; (with_reducible refine (ver_Compare.calls kj3 t452 t453 t454 t455 t456 a0_0 a0_1 a0_2 a0_3 a0_4 t464 _ A33.out).mono ?_); rintro e w81 ⟨rfl, hb⟩; refine ⟨_, rfl, ?_⟩; have n0_ := Aside0.mk (blk_below (g := gb0) (o := .cells #[.int .i64 a0_0, .int .i64 a0_1, .int .i64 a0_2, .string a0_3, .string a0_4] 23 (0, 0)) (by (with_reducible repeat (first | apply xN_ | apply xD_ | apply xA_)); refine xR_ ?_ NB0_2.out _; refine xR_ ?_ NB0_2.out _; refine xR_ ?_ NB0_2.out _; refine xR_ ?_ NB0_2.out _; refine xR_ ?_ NB0_2.out _; (with_reducible repeat (first | apply xN_ | apply xD_ | apply xA_)); exact BK0.out) hb); have n1_ := Aside0.mk (blk_below (g := gb1) (o := .cells #[.int .i64 a2_0, .int .i64 a2_1, .int .i64 a2_2, .string a2_3, .string a2_4] 23 (0, 0)) (by (with_reducible repeat (first | apply xN_ | apply xD_ | apply xA_)); refine xR_ ?_ NB1_2.out _; refine xR_ ?_ NB1_2.out _; refine xR_ ?_ NB1_2.out _; refine xR_ ?_ NB1_2.out _; refine xR_ ?_ NB1_2.out _; (with_reducible repeat (first | apply xN_ | apply xD_ | apply xA_)); exact BK1.out) hb); have n2_ := Aside0.mk (blk_below (g := gb2) (o := .cells #[.int .i64 t452, .int .i64 t453, .int .i64 t454, .string t455, .string t456] 23 (0, 0)) (by (with_reducible repeat (first | apply xN_ | apply xD_ | apply xA_)); refine blk_put (cs := #[.int .i64 t452, .int .i64 t453, .int .i64 t454, .string t455, .string (⟨#[]⟩ : ByteArray)]) ?_ 4 _ rfl; refine blk_put (cs := #[.int .i64 t452, .int .i64 t453, .int .i64 t454, .string (⟨#[]⟩ : ByteArray), .string (⟨#[]⟩ : ByteArray)]) ?_ 3 _ rfl; refine blk_put (cs := #[.int .i64 t452, .int .i64 t453, .int .i64 0, .string (⟨#[]⟩ : ByteArray), .string (⟨#[]⟩ : ByteArray)]) ?_ 2 _ rfl; refine blk_put (cs := #[.int .i64 t452, .int .i64 0, .int .i64 0, .string (⟨#[]⟩ : ByteArray), .string (⟨#[]⟩ : ByteArray)]) ?_ 1 _ rfl; refine blk_put (cs := #[.int .i64 0, .int .i64 0, .int .i64 0, .string (⟨#[]⟩ : ByteArray), .string (⟨#[]⟩ : ByteArray)]) ?_ 0 _ rfl; (with_reducible repeat (first | apply xN_ | apply xD_ | apply xA_)); exact BK2.out) hb); have n3_ := Aside0.mk (below_step (by repeat (first | (with_reducible first | exact HB.out | apply yA_ | apply yN_ | apply yD_ | refine yS_ ?_ GE0.out | refine yS_ ?_ GE1.out | refine yS_ ?_ GE2.out) | exact HB.out)) hb); clear BK0; clear BK1; clear BK2; clear HB; have BK0 := n0_; have BK1 := n1_; have BK2 := n2_; have HB := n3_; clear n0_ n1_ n2_ n3_; (try clear hb); have uz25_0 : w81.cell? ⟨gb2, 0, none⟩ = some (.int .i64 t452) := (xC_ BK2.out 0).trans rfl; have uz25_1 : w81.cell? ⟨gb2, 1, none⟩ = some (.int .i64 t453) := (xC_ BK2.out 1).trans rfl; have uz25_2 : w81.cell? ⟨gb2, 2, none⟩ = some (.int .i64 t454) := (xC_ BK2.out 2).trans rfl; have uz25_3 : w81.cell? ⟨gb2, 3, none⟩ = some (.string t455) := (xC_ BK2.out 3).trans rfl; have uz25_4 : w81.cell? ⟨gb2, 4, none⟩ = some (.string t456) := (xC_ BK2.out 4).trans rfl; have fz25_0 := xF_ BK2.out 0; have fz25_1 := xF_ BK2.out 1; have fz25_2 := xF_ BK2.out 2; have fz25_3 := xF_ BK2.out 3; have fz25_4 := xF_ BK2.out 4))
         go_meet
         case rel => exact ⟨_, (true), (by first | rfl | (simp; done) | (simp [*]; done)), H', ⟨by have := HJ3.out; first | omega | exact Nat.le_refl _⟩, ⟨by (with_reducible repeat (first | apply xN_ | apply xD_ | apply xA_)); exact BK0.out⟩, ⟨by (with_reducible repeat (first | apply xN_ | apply xD_ | apply xA_)); exact BK1.out⟩, ⟨by (with_reducible repeat (first | apply xN_ | apply xD_ | apply xA_)); exact BK2.out⟩, ⟨by repeat (first | (with_reducible first | exact HB.out | apply yA_ | apply yN_ | apply yD_ | refine yS_ ?_ GE0.out | refine yS_ ?_ GE1.out | refine yS_ ?_ GE2.out) | exact HB.out)⟩⟩
       ·rw [if_neg c35] at H
        have c35b0 : (t455.toList == ([] : List UInt8)) = false := beq_eq_false_iff_ne.mpr c35
        have c35be : t455.toList.isEmpty = false := by simpa using c35b0
        (try rw [c35be])
        (try simp only [Bool.not_true, Bool.not_false])
        have c35b1 : (t455.toList != ([] : List UInt8)) = true := bne_iff_ne.mpr c35
        have H' := Aside0.mk H
        clear H
        have hnb83 := NB2_0.out
        have hnc83 := NB0_2.out
        have hnb84 := NB2_1.out
        have hnc84 := NB1_2.out
        have uz26_0 : w29.cell? ⟨gb2, 0, none⟩ = some (.int .i64 0) := (xC_ BK2.out 0).trans rfl
        have uz26_1 : w29.cell? ⟨gb2, 1, none⟩ = some (.int .i64 0) := (xC_ BK2.out 1).trans rfl
        have uz26_2 : w29.cell? ⟨gb2, 2, none⟩ = some (.int .i64 0) := (xC_ BK2.out 2).trans rfl
        have uz26_3 : w29.cell? ⟨gb2, 3, none⟩ = some (.string (⟨#[]⟩ : ByteArray)) := (xC_ BK2.out 3).trans rfl
        have uz26_4 : w29.cell? ⟨gb2, 4, none⟩ = some (.string (⟨#[]⟩ : ByteArray)) := (xC_ BK2.out 4).trans rfl
        have fz26_0 := xF_ BK2.out 0
        have fz26_1 := xF_ BK2.out 1
        have fz26_2 := xF_ BK2.out 2
        have fz26_3 := xF_ BK2.out 3
        have fz26_4 := xF_ BK2.out 4
        have hnb86 := NB0_1.out
        have hnc86 := NB1_0.out
        have uz27_0 : w29.cell? ⟨gb0, 0, none⟩ = some (.int .i64 a0_0) := (xC_ BK0.out 0).trans rfl
        have uz27_1 : w29.cell? ⟨gb0, 1, none⟩ = some (.int .i64 a0_1) := (xC_ BK0.out 1).trans rfl
        have uz27_2 : w29.cell? ⟨gb0, 2, none⟩ = some (.int .i64 a0_2) := (xC_ BK0.out 2).trans rfl
        have uz27_3 : w29.cell? ⟨gb0, 3, none⟩ = some (.string a0_3) := (xC_ BK0.out 3).trans rfl
        have uz27_4 : w29.cell? ⟨gb0, 4, none⟩ = some (.string a0_4) := (xC_ BK0.out 4).trans rfl
        have fz27_0 := xF_ BK0.out 0
        have fz27_1 := xF_ BK0.out 1
        have fz27_2 := xF_ BK0.out 2
        have fz27_3 := xF_ BK0.out 3
        have fz27_4 := xF_ BK0.out 4
        go_wp2_with (first | ((with_reducible refine gate_callee (f := 19) rfl ?_); refine goesL_ (some 68) rfl rfl Tryd.func19 (by kernel_rfl) rfl #[.agg #[.int .i64 t452, .int .i64 t453, .int .i64 t454, .string t455, .string t456], .agg #[.int .i64 a0_0, .int .i64 a0_1, .int .i64 a0_2, .string a0_3, .string a0_4]] rfl (by (try simp only [List.map_toArray, List.map_cons, List.map_nil]); first | done | rfl) ?_; (with_reducible refine (ver_Compare.calls kj3 t452 t453 t454 t455 t456 a0_0 a0_1 a0_2 a0_3 a0_4 t464 _ A33.out).mono ?_); rintro e w88 ⟨rfl, hb⟩; refine ⟨_, rfl, ?_⟩; have n0_ := Aside0.mk (blk_below (g := gb0) (o := .cells #[.int .i64 a0_0, .int .i64 a0_1, .int .i64 a0_2, .string a0_3, .string a0_4] 23 (0, 0)) (by (with_reducible repeat (first | apply xN_ | apply xD_ | apply xA_)); refine xR_ ?_ NB0_2.out _; refine xR_ ?_ NB0_2.out _; refine xR_ ?_ NB0_2.out _; refine xR_ ?_ NB0_2.out _; refine xR_ ?_ NB0_2.out _; (with_reducible repeat (first | apply xN_ | apply xD_ | apply xA_)); exact BK0.out) hb); have n1_ := Aside0.mk (blk_below (g := gb1) (o := .cells #[.int .i64 a2_0, .int .i64 a2_1, .int .i64 a2_2, .string a2_3, .string a2_4] 23 (0, 0)) (by (with_reducible repeat (first | apply xN_ | apply xD_ | apply xA_)); refine xR_ ?_ NB1_2.out _; refine xR_ ?_ NB1_2.out _; refine xR_ ?_ NB1_2.out _; refine xR_ ?_ NB1_2.out _; refine xR_ ?_ NB1_2.out _; (with_reducible repeat (first | apply xN_ | apply xD_ | apply xA_)); exact BK1.out) hb); have n2_ := Aside0.mk (blk_below (g := gb2) (o := .cells #[.int .i64 t452, .int .i64 t453, .int .i64 t454, .string t455, .string t456] 23 (0, 0)) (by (with_reducible repeat (first | apply xN_ | apply xD_ | apply xA_)); refine blk_put (cs := #[.int .i64 t452, .int .i64 t453, .int .i64 t454, .string t455, .string (⟨#[]⟩ : ByteArray)]) ?_ 4 _ rfl; refine blk_put (cs := #[.int .i64 t452, .int .i64 t453, .int .i64 t454, .string (⟨#[]⟩ : ByteArray), .string (⟨#[]⟩ : ByteArray)]) ?_ 3 _ rfl; refine blk_put (cs := #[.int .i64 t452, .int .i64 t453, .int .i64 0, .string (⟨#[]⟩ : ByteArray), .string (⟨#[]⟩ : ByteArray)]) ?_ 2 _ rfl; refine blk_put (cs := #[.int .i64 t452, .int .i64 0, .int .i64 0, .string (⟨#[]⟩ : ByteArray), .string (⟨#[]⟩ : ByteArray)]) ?_ 1 _ rfl; refine blk_put (cs := #[.int .i64 0, .int .i64 0, .int .i64 0, .string (⟨#[]⟩ : ByteArray), .string (⟨#[]⟩ : ByteArray)]) ?_ 0 _ rfl; (with_reducible repeat (first | apply xN_ | apply xD_ | apply xA_)); exact BK2.out) hb); have n3_ := Aside0.mk (below_step (by repeat (first | (with_reducible first | exact HB.out | apply yA_ | apply yN_ | apply yD_ | refine yS_ ?_ GE0.out | refine yS_ ?_ GE1.out | refine yS_ ?_ GE2.out) | exact HB.out)) hb); clear BK0; clear BK1; clear BK2; clear HB; have BK0 := n0_; have BK1 := n1_; have BK2 := n2_; have HB := n3_; clear n0_ n1_ n2_ n3_; (try clear hb); have uz28_0 : w88.cell? ⟨gb2, 0, none⟩ = some (.int .i64 t452) := (xC_ BK2.out 0).trans rfl; have uz28_1 : w88.cell? ⟨gb2, 1, none⟩ = some (.int .i64 t453) := (xC_ BK2.out 1).trans rfl; have uz28_2 : w88.cell? ⟨gb2, 2, none⟩ = some (.int .i64 t454) := (xC_ BK2.out 2).trans rfl; have uz28_3 : w88.cell? ⟨gb2, 3, none⟩ = some (.string t455) := (xC_ BK2.out 3).trans rfl; have uz28_4 : w88.cell? ⟨gb2, 4, none⟩ = some (.string t456) := (xC_ BK2.out 4).trans rfl; have fz28_0 := xF_ BK2.out 0; have fz28_1 := xF_ BK2.out 1; have fz28_2 := xF_ BK2.out 2; have fz28_3 := xF_ BK2.out 3; have fz28_4 := xF_ BK2.out 4))
        go_meet
        case rel => exact ⟨_, (true), (by first | rfl | (simp; done) | (simp [*]; done)), H', ⟨by have := HJ3.out; first | omega | exact Nat.le_refl _⟩, ⟨by (with_reducible repeat (first | apply xN_ | apply xD_ | apply xA_)); exact BK0.out⟩, ⟨by (with_reducible repeat (first | apply xN_ | apply xD_ | apply xA_)); exact BK1.out⟩, ⟨by (with_reducible repeat (first | apply xN_ | apply xD_ | apply xA_)); exact BK2.out⟩, ⟨by repeat (first | (with_reducible first | exact HB.out | apply yA_ | apply yN_ | apply yD_ | refine yS_ ?_ GE0.out | refine yS_ ?_ GE1.out | refine yS_ ?_ GE2.out) | exact HB.out)⟩⟩
      ·rw [if_neg c34] at H
       have c34b0 : (t464 == 1) = false := beq_eq_false_iff_ne.mpr c34
       have c34b1 : (t464 != 1) = true := bne_iff_ne.mpr c34
       (first | rw [c34b0] | (simp only [i64_w, i32_w]; rw [c34b0]) | skip)
       have H' := Aside0.mk H
       clear H
       have hnb90 := NB2_0.out
       have hnc90 := NB0_2.out
       have hnb91 := NB2_1.out
       have hnc91 := NB1_2.out
       have uz29_0 : w29.cell? ⟨gb2, 0, none⟩ = some (.int .i64 0) := (xC_ BK2.out 0).trans rfl
       have uz29_1 : w29.cell? ⟨gb2, 1, none⟩ = some (.int .i64 0) := (xC_ BK2.out 1).trans rfl
       have uz29_2 : w29.cell? ⟨gb2, 2, none⟩ = some (.int .i64 0) := (xC_ BK2.out 2).trans rfl
       have uz29_3 : w29.cell? ⟨gb2, 3, none⟩ = some (.string (⟨#[]⟩ : ByteArray)) := (xC_ BK2.out 3).trans rfl
       have uz29_4 : w29.cell? ⟨gb2, 4, none⟩ = some (.string (⟨#[]⟩ : ByteArray)) := (xC_ BK2.out 4).trans rfl
       have fz29_0 := xF_ BK2.out 0
       have fz29_1 := xF_ BK2.out 1
       have fz29_2 := xF_ BK2.out 2
       have fz29_3 := xF_ BK2.out 3
       have fz29_4 := xF_ BK2.out 4
       have hnb93 := NB0_1.out
       have hnc93 := NB1_0.out
       have uz30_0 : w29.cell? ⟨gb0, 0, none⟩ = some (.int .i64 a0_0) := (xC_ BK0.out 0).trans rfl
       have uz30_1 : w29.cell? ⟨gb0, 1, none⟩ = some (.int .i64 a0_1) := (xC_ BK0.out 1).trans rfl
       have uz30_2 : w29.cell? ⟨gb0, 2, none⟩ = some (.int .i64 a0_2) := (xC_ BK0.out 2).trans rfl
       have uz30_3 : w29.cell? ⟨gb0, 3, none⟩ = some (.string a0_3) := (xC_ BK0.out 3).trans rfl
       have uz30_4 : w29.cell? ⟨gb0, 4, none⟩ = some (.string a0_4) := (xC_ BK0.out 4).trans rfl
       have fz30_0 := xF_ BK0.out 0
       have fz30_1 := xF_ BK0.out 1
       have fz30_2 := xF_ BK0.out 2
       have fz30_3 := xF_ BK0.out 3
       have fz30_4 := xF_ BK0.out 4
       go_wp2_with (first | ((with_reducible refine gate_callee (f := 19) rfl ?_); refine goesL_ (some 68) rfl rfl Tryd.func19 (by kernel_rfl) rfl #[.agg #[.int .i64 t452, .int .i64 t453, .int .i64 t454, .string t455, .string t456], .agg #[.int .i64 a0_0, .int .i64 a0_1, .int .i64 a0_2, .string a0_3, .string a0_4]] rfl (by (try simp only [List.map_toArray, List.map_cons, List.map_nil]); first | done | rfl) ?_; (with_reducible refine (ver_Compare.calls kj3 t452 t453 t454 t455 t456 a0_0 a0_1 a0_2 a0_3 a0_4 t464 _ A33.out).mono ?_); rintro e w95 ⟨rfl, hb⟩; refine ⟨_, rfl, ?_⟩; have n0_ := Aside0.mk (blk_below (g := gb0) (o := .cells #[.int .i64 a0_0, .int .i64 a0_1, .int .i64 a0_2, .string a0_3, .string a0_4] 23 (0, 0)) (by (with_reducible repeat (first | apply xN_ | apply xD_ | apply xA_)); refine xR_ ?_ NB0_2.out _; refine xR_ ?_ NB0_2.out _; refine xR_ ?_ NB0_2.out _; refine xR_ ?_ NB0_2.out _; refine xR_ ?_ NB0_2.out _; (with_reducible repeat (first | apply xN_ | apply xD_ | apply xA_)); exact BK0.out) hb); have n1_ := Aside0.mk (blk_below (g := gb1) (o := .cells #[.int .i64 a2_0, .int .i64 a2_1, .int .i64 a2_2, .string a2_3, .string a2_4] 23 (0, 0)) (by (with_reducible repeat (first | apply xN_ | apply xD_ | apply xA_)); refine xR_ ?_ NB1_2.out _; refine xR_ ?_ NB1_2.out _; refine xR_ ?_ NB1_2.out _; refine xR_ ?_ NB1_2.out _; refine xR_ ?_ NB1_2.out _; (with_reducible repeat (first | apply xN_ | apply xD_ | apply xA_)); exact BK1.out) hb); have n2_ := Aside0.mk (blk_below (g := gb2) (o := .cells #[.int .i64 t452, .int .i64 t453, .int .i64 t454, .string t455, .string t456] 23 (0, 0)) (by (with_reducible repeat (first | apply xN_ | apply xD_ | apply xA_)); refine blk_put (cs := #[.int .i64 t452, .int .i64 t453, .int .i64 t454, .string t455, .string (⟨#[]⟩ : ByteArray)]) ?_ 4 _ rfl; refine blk_put (cs := #[.int .i64 t452, .int .i64 t453, .int .i64 t454, .string (⟨#[]⟩ : ByteArray), .string (⟨#[]⟩ : ByteArray)]) ?_ 3 _ rfl; refine blk_put (cs := #[.int .i64 t452, .int .i64 t453, .int .i64 0, .string (⟨#[]⟩ : ByteArray), .string (⟨#[]⟩ : ByteArray)]) ?_ 2 _ rfl; refine blk_put (cs := #[.int .i64 t452, .int .i64 0, .int .i64 0, .string (⟨#[]⟩ : ByteArray), .string (⟨#[]⟩ : ByteArray)]) ?_ 1 _ rfl; refine blk_put (cs := #[.int .i64 0, .int .i64 0, .int .i64 0, .string (⟨#[]⟩ : ByteArray), .string (⟨#[]⟩ : ByteArray)]) ?_ 0 _ rfl; (with_reducible repeat (first | apply xN_ | apply xD_ | apply xA_)); exact BK2.out) hb); have n3_ := Aside0.mk (below_step (by repeat (first | (with_reducible first | exact HB.out | apply yA_ | apply yN_ | apply yD_ | refine yS_ ?_ GE0.out | refine yS_ ?_ GE1.out | refine yS_ ?_ GE2.out) | exact HB.out)) hb); clear BK0; clear BK1; clear BK2; clear HB; have BK0 := n0_; have BK1 := n1_; have BK2 := n2_; have HB := n3_; clear n0_ n1_ n2_ n3_; (try clear hb)))
       go_meet
       case rel => exact ⟨_, (true), (by first | rfl | (simp; done) | (simp [*]; done)), H', ⟨by have := HJ3.out; first | omega | exact Nat.le_refl _⟩, ⟨by (with_reducible repeat (first | apply xN_ | apply xD_ | apply xA_)); exact BK0.out⟩, ⟨by (with_reducible repeat (first | apply xN_ | apply xD_ | apply xA_)); exact BK1.out⟩, ⟨by (with_reducible repeat (first | apply xN_ | apply xD_ | apply xA_)); exact BK2.out⟩, ⟨by repeat (first | (with_reducible first | exact HB.out | apply yA_ | apply yN_ | apply yD_ | refine yS_ ?_ GE0.out | refine yS_ ?_ GE1.out | refine yS_ ?_ GE2.out) | exact HB.out)⟩⟩
     case rest =>
      clear HC25
      (try clear c1); (try clear c2); (try clear p2); (try clear c3); (try clear c4); (try clear c5); (try clear c6); (try clear c7); (try clear c7b0); (try clear c7b1)
      (try clear c8); (try clear c9); (try clear c10); (try clear c10b0); (try clear c10b1); (try clear c11); (try clear c13); (try clear c13b0); (try clear c13b1)
      (try clear c14); (try clear c17); (try clear c19); (try clear c20); (try clear c24); (try clear c24b0); (try clear c24b1); (try clear c26); (try clear c30)
      (try clear c31); (try clear c34); (try clear c34b0); (try clear c34b1); (try clear c35); (try clear c35b0); (try clear c35b1); (try clear c36); (try clear c36b0)
      (try clear c36b1); (try clear c37); (try clear c37b0); (try clear c38); (try clear c38b0); (try clear c38b1); (try clear c39); (try clear c39b0); (try clear c39b1)
      (try clear c40); (try clear c41); (try clear c43); (try clear c47); (try clear c48); (try clear c50); (try clear c54); (try clear c55); (try clear c57); (try clear c61)
      (try clear c61b0); (try clear c61b1); (try clear c62); (try clear c63); (try clear c65); (try clear c69); (try clear c70); (try clear c72); (try clear c76)
      (try clear c77); (try clear c79); (try clear c83); (try clear c84); (try clear c86); (try clear c90); (try clear c91); (try clear c93); (try clear uz1_0); (try clear uz1_1)
      (try clear uz1_2); (try clear uz1_3); (try clear uz1_4); (try clear uz2_0); (try clear uz2_1); (try clear uz2_2); (try clear uz2_3); (try clear uz2_4); (try clear uz3_0)
      (try clear uz3_1); (try clear uz3_2); (try clear uz3_3); (try clear uz3_4); (try clear uz4_0); (try clear uz4_1); (try clear uz4_2); (try clear uz4_3); (try clear uz4_4)
      (try clear uz5_0); (try clear uz5_1); (try clear uz5_2); (try clear uz5_3); (try clear uz5_4); (try clear uz6_0); (try clear uz6_1); (try clear uz6_2); (try clear uz6_3)
      (try clear uz6_4); (try clear uz7_0); (try clear uz7_1); (try clear uz7_2); (try clear uz7_3); (try clear uz7_4); (try clear uz8_0); (try clear uz8_1); (try clear uz8_2)
      (try clear uz8_3); (try clear uz8_4); (try clear uz9_0); (try clear uz9_1); (try clear uz9_2); (try clear uz9_3); (try clear uz9_4); (try clear uz10_0); (try clear uz10_1)
      (try clear uz10_2); (try clear uz10_3); (try clear uz10_4); (try clear uz11_0); (try clear uz11_1); (try clear uz11_2); (try clear uz11_3); (try clear uz11_4)
      (try clear uz12_0); (try clear uz12_1); (try clear uz12_2); (try clear uz12_3); (try clear uz12_4); (try clear uz13_0); (try clear uz13_1); (try clear uz13_2)
      (try clear uz13_3); (try clear uz13_4); (try clear uz14_0); (try clear uz14_1); (try clear uz14_2); (try clear uz14_3); (try clear uz14_4); (try clear uz15_0)
      (try clear uz15_1); (try clear uz15_2); (try clear uz15_3); (try clear uz15_4); (try clear uz16_0); (try clear uz16_1); (try clear uz16_2); (try clear uz16_3)
      (try clear uz16_4); (try clear uz17_0); (try clear uz17_1); (try clear uz17_2); (try clear uz17_3); (try clear uz17_4); (try clear uz18_0); (try clear uz18_1)
      (try clear uz18_2); (try clear uz18_3); (try clear uz18_4); (try clear uz19_0); (try clear uz19_1); (try clear uz19_2); (try clear uz19_3); (try clear uz19_4)
      (try clear uz20_0); (try clear uz20_1); (try clear uz20_2); (try clear uz20_3); (try clear uz20_4); (try clear uz21_0); (try clear uz21_1); (try clear uz21_2)
      (try clear uz21_3); (try clear uz21_4); (try clear uz22_0); (try clear uz22_1); (try clear uz22_2); (try clear uz22_3); (try clear uz22_4); (try clear uz23_0)
      (try clear uz23_1); (try clear uz23_2); (try clear uz23_3); (try clear uz23_4); (try clear uz24_0); (try clear uz24_1); (try clear uz24_2); (try clear uz24_3)
      (try clear uz24_4); (try clear uz25_0); (try clear uz25_1); (try clear uz25_2); (try clear uz25_3); (try clear uz25_4); (try clear uz26_0); (try clear uz26_1)
      (try clear uz26_2); (try clear uz26_3); (try clear uz26_4); (try clear uz27_0); (try clear uz27_1); (try clear uz27_2); (try clear uz27_3); (try clear uz27_4)
      (try clear uz28_0); (try clear uz28_1); (try clear uz28_2); (try clear uz28_3); (try clear uz28_4); (try clear uz29_0); (try clear uz29_1); (try clear uz29_2)
      (try clear uz29_3); (try clear uz29_4); (try clear uz30_0); (try clear uz30_1); (try clear uz30_2); (try clear uz30_3); (try clear uz30_4); (try clear uz0_0)
      (try clear uz0_1); (try clear uz0_2); (try clear uz0_3); (try clear uz0_4); (try clear fz1_0); (try clear fz1_1); (try clear fz1_2); (try clear fz1_3); (try clear fz1_4)
      (try clear fz2_0); (try clear fz2_1); (try clear fz2_2); (try clear fz2_3); (try clear fz2_4); (try clear fz3_0); (try clear fz3_1); (try clear fz3_2); (try clear fz3_3)
      (try clear fz3_4); (try clear fz4_0); (try clear fz4_1); (try clear fz4_2); (try clear fz4_3); (try clear fz4_4); (try clear fz5_0); (try clear fz5_1); (try clear fz5_2)
      (try clear fz5_3); (try clear fz5_4); (try clear fz6_0); (try clear fz6_1); (try clear fz6_2); (try clear fz6_3); (try clear fz6_4); (try clear fz7_0); (try clear fz7_1)
      (try clear fz7_2); (try clear fz7_3); (try clear fz7_4); (try clear fz8_0); (try clear fz8_1); (try clear fz8_2); (try clear fz8_3); (try clear fz8_4); (try clear fz9_0)
      (try clear fz9_1); (try clear fz9_2); (try clear fz9_3); (try clear fz9_4); (try clear fz10_0); (try clear fz10_1); (try clear fz10_2); (try clear fz10_3)
      (try clear fz10_4); (try clear fz11_0); (try clear fz11_1); (try clear fz11_2); (try clear fz11_3); (try clear fz11_4); (try clear fz12_0); (try clear fz12_1)
      (try clear fz12_2); (try clear fz12_3); (try clear fz12_4); (try clear fz13_0); (try clear fz13_1); (try clear fz13_2); (try clear fz13_3); (try clear fz13_4)
      (try clear fz14_0); (try clear fz14_1); (try clear fz14_2); (try clear fz14_3); (try clear fz14_4); (try clear fz15_0); (try clear fz15_1); (try clear fz15_2)
      (try clear fz15_3); (try clear fz15_4); (try clear fz16_0); (try clear fz16_1); (try clear fz16_2); (try clear fz16_3); (try clear fz16_4); (try clear fz17_0)
      (try clear fz17_1); (try clear fz17_2); (try clear fz17_3); (try clear fz17_4); (try clear fz18_0); (try clear fz18_1); (try clear fz18_2); (try clear fz18_3)
      (try clear fz18_4); (try clear fz19_0); (try clear fz19_1); (try clear fz19_2); (try clear fz19_3); (try clear fz19_4); (try clear fz20_0); (try clear fz20_1)
      (try clear fz20_2); (try clear fz20_3); (try clear fz20_4); (try clear fz21_0); (try clear fz21_1); (try clear fz21_2); (try clear fz21_3); (try clear fz21_4)
      (try clear fz22_0); (try clear fz22_1); (try clear fz22_2); (try clear fz22_3); (try clear fz22_4); (try clear fz23_0); (try clear fz23_1); (try clear fz23_2)
      (try clear fz23_3); (try clear fz23_4); (try clear fz24_0); (try clear fz24_1); (try clear fz24_2); (try clear fz24_3); (try clear fz24_4); (try clear fz25_0)
      (try clear fz25_1); (try clear fz25_2); (try clear fz25_3); (try clear fz25_4); (try clear fz26_0); (try clear fz26_1); (try clear fz26_2); (try clear fz26_3)
      (try clear fz26_4); (try clear fz27_0); (try clear fz27_1); (try clear fz27_2); (try clear fz27_3); (try clear fz27_4); (try clear fz28_0); (try clear fz28_1)
      (try clear fz28_2); (try clear fz28_3); (try clear fz28_4); (try clear fz29_0); (try clear fz29_1); (try clear fz29_2); (try clear fz29_3); (try clear fz29_4)
      (try clear fz30_0); (try clear fz30_1); (try clear fz30_2); (try clear fz30_3); (try clear fz30_4); (try clear fz0_0); (try clear fz0_1); (try clear fz0_2)
      (try clear fz0_3); (try clear fz0_4); (try clear p2)
      obtain ⟨kq, x97_24, rfl, HA, HJ24, BK0, BK1, BK2, HB⟩ := hcut
      cases kq with
      | zero => exact absurd HA.out (by simp [armadalaw07_VerBumps.j1])
      | succ kj24 =>
       have H := HA.out
       clear HA
       simp only [armadalaw07_VerBumps.j1] at H
       by_cases c96 : x97_24 = true
       ·subst c96
        have H1 : (some false) = some true := by rw [if_pos rfl] at H; exact H
        clear H
        have H := H1
        clear H1
        exact absurd H (by simp)
       ·replace c96 := Bool.eq_false_iff.mpr c96
        subst c96
        have H1 : ((ver_Bump.f a0_0 a0_1 a0_2 a0_3 a0_4 (wrap64 (a1 + 1))).bind fun bt465 => (if bt465.2.2.2.2.2 = 0 then ((ver_Compare.f kj24 bt465.1 bt465.2.1 bt465.2.2.1 bt465.2.2.2.1 bt465.2.2.2.2.1 t452 t453 t454 t455 t456).bind fun t472 => (armadalaw07_VerBumps.j2 kj24 a1 (decide (t472 < 0)) a0_0 a0_1 a0_2 a0_3 a0_4 a2_0 a2_1 a2_2 a2_3 a2_4 t452 t453 t454 t455 t456)) else (armadalaw07_VerBumps.j2 kj24 a1 false a0_0 a0_1 a0_2 a0_3 a0_4 a2_0 a2_1 a2_2 a2_3 a2_4 t452 t453 t454 t455 t456))) = some true := by rw [if_neg (show ¬ (false = true) by decide)] at H; exact H
        clear H
        have H := H1
        clear H1
        replace H := Option.bind_eq_some_iff.mp H
        obtain ⟨⟨t465, t466, t467, t468, t469, t470⟩, A970, H⟩ := H
        replace H : (if t470 = 0 then ((ver_Compare.f kj24 t465 t466 t467 t468 t469 t452 t453 t454 t455 t456).bind fun t472 => (armadalaw07_VerBumps.j2 kj24 a1 (decide (t472 < 0)) a0_0 a0_1 a0_2 a0_3 a0_4 a2_0 a2_1 a2_2 a2_3 a2_4 t452 t453 t454 t455 t456)) else (armadalaw07_VerBumps.j2 kj24 a1 false a0_0 a0_1 a0_2 a0_3 a0_4 a2_0 a2_1 a2_2 a2_3 a2_4 t452 t453 t454 t455 t456)) = some true := H
        have A97 := Aside0.mk A970
        clear A970
        have HC98 := Aside0.mk H
        clear H
        have hnb99 := NB0_1.out
        have hnc99 := NB1_0.out
        have hnb100 := NB0_2.out
        have hnc100 := NB2_0.out
        have uz31_0 : wc.cell? ⟨gb0, 0, none⟩ = some (.int .i64 a0_0) := (xC_ BK0.out 0).trans rfl
        have uz31_1 : wc.cell? ⟨gb0, 1, none⟩ = some (.int .i64 a0_1) := (xC_ BK0.out 1).trans rfl
        have uz31_2 : wc.cell? ⟨gb0, 2, none⟩ = some (.int .i64 a0_2) := (xC_ BK0.out 2).trans rfl
        have uz31_3 : wc.cell? ⟨gb0, 3, none⟩ = some (.string a0_3) := (xC_ BK0.out 3).trans rfl
        have uz31_4 : wc.cell? ⟨gb0, 4, none⟩ = some (.string a0_4) := (xC_ BK0.out 4).trans rfl
        have fz31_0 := xF_ BK0.out 0
        have fz31_1 := xF_ BK0.out 1
        have fz31_2 := xF_ BK0.out 2
        have fz31_3 := xF_ BK0.out 3
        have fz31_4 := xF_ BK0.out 4
        go_upto_region 9 with (first | ((with_reducible refine gate_callee (f := 17) rfl ?_); refine goesL_ (some 102) rfl rfl Tryd.func17 (by kernel_rfl) rfl #[.agg #[.int .i64 a0_0, .int .i64 a0_1, .int .i64 a0_2, .string a0_3, .string a0_4], .int .i64 (wrap64 (a1 + 1))] rfl (by (try simp only [List.map_toArray, List.map_cons, List.map_nil]); first | done | rfl) ?_; (with_reducible refine (ver_Bump.calls a0_0 a0_1 a0_2 a0_3 a0_4 (wrap64 (a1 + 1)) t465 t466 t467 t468 t469 t470 _ A97.out).mono ?_); rintro e w102 ⟨rfl, hb⟩; refine ⟨_, rfl, ?_⟩; have n0_ := Aside0.mk (blk_below (g := gb0) (o := .cells #[.int .i64 a0_0, .int .i64 a0_1, .int .i64 a0_2, .string a0_3, .string a0_4] 23 (0, 0)) (by (with_reducible repeat (first | apply xN_ | apply xD_ | apply xA_)); exact BK0.out) hb); have n1_ := Aside0.mk (blk_below (g := gb1) (o := .cells #[.int .i64 a2_0, .int .i64 a2_1, .int .i64 a2_2, .string a2_3, .string a2_4] 23 (0, 0)) (by (with_reducible repeat (first | apply xN_ | apply xD_ | apply xA_)); exact BK1.out) hb); have n2_ := Aside0.mk (blk_below (g := gb2) (o := .cells #[.int .i64 t452, .int .i64 t453, .int .i64 t454, .string t455, .string t456] 23 (0, 0)) (by (with_reducible repeat (first | apply xN_ | apply xD_ | apply xA_)); exact BK2.out) hb); have n3_ := Aside0.mk (below_step (by repeat (first | (with_reducible first | exact HB.out | apply yA_ | apply yN_ | apply yD_ | refine yS_ ?_ GE0.out | refine yS_ ?_ GE1.out | refine yS_ ?_ GE2.out) | exact HB.out)) hb); clear BK0; clear BK1; clear BK2; clear HB; have BK0 := n0_; have BK1 := n1_; have BK2 := n2_; have HB := n3_; clear n0_ n1_ n2_ n3_; (try clear hb)) | ((with_reducible refine gate_dst (N := 9) rfl ?_); (try (refine gate_guard (by rfl) ?_; dsimp only)); refine box_event ?hg (N := 9) ?hd (cs := #[.int .i64 0, .int .i64 0, .int .i64 0, .string (⟨#[]⟩ : ByteArray), .string (⟨#[]⟩ : ByteArray)]) (t := 23) ?hr ?_; (case hd => rfl); (case hg => rfl); (case hr => first | (go_simp; done) | (go_simp; rfl)); intro gb3 hg w103 hbox hb; have n0_ := Aside0.mk (blk_below (g := gb0) (o := .cells #[.int .i64 a0_0, .int .i64 a0_1, .int .i64 a0_2, .string a0_3, .string a0_4] 23 (0, 0)) (by (with_reducible repeat (first | apply xN_ | apply xD_ | apply xA_)); exact BK0.out) hb); have n1_ := Aside0.mk (blk_below (g := gb1) (o := .cells #[.int .i64 a2_0, .int .i64 a2_1, .int .i64 a2_2, .string a2_3, .string a2_4] 23 (0, 0)) (by (with_reducible repeat (first | apply xN_ | apply xD_ | apply xA_)); exact BK1.out) hb); have n2_ := Aside0.mk (blk_below (g := gb2) (o := .cells #[.int .i64 t452, .int .i64 t453, .int .i64 t454, .string t455, .string t456] 23 (0, 0)) (by (with_reducible repeat (first | apply xN_ | apply xD_ | apply xA_)); exact BK2.out) hb); have n3_ := Aside0.mk (below_step (by repeat (first | (with_reducible first | exact HB.out | apply yA_ | apply yN_ | apply yD_ | refine yS_ ?_ GE0.out | refine yS_ ?_ GE1.out | refine yS_ ?_ GE2.out) | exact HB.out)) hb); have n4_ := Aside0.mk (hbox); have n5_ := Aside0.mk ((by rw [hg]; exact (below_size (by repeat (first | (with_reducible first | exact HB.out | apply yA_ | apply yN_ | apply yD_ | refine yS_ ?_ GE0.out | refine yS_ ?_ GE1.out | refine yS_ ?_ GE2.out) | exact HB.out))) : w.heap.size ≤ gb3)); have n6_ := Aside0.mk ((by rw [hg]; exact (below_size (by repeat (first | (with_reducible first | exact HB.out | apply yA_ | apply yN_ | apply yD_ | refine yS_ ?_ GE0.out | refine yS_ ?_ GE1.out | refine yS_ ?_ GE2.out) | exact HB.out))) : w.heap.size ≤ gb3)); have n7_ := Aside0.mk ((by rw [hg]; exact Nat.ne_of_lt (blk_lt (g := gb0) (o := .cells #[.int .i64 a0_0, .int .i64 a0_1, .int .i64 a0_2, .string a0_3, .string a0_4] 23 (0, 0)) (by (with_reducible repeat (first | apply xN_ | apply xD_ | apply xA_)); exact BK0.out)) : gb0 ≠ gb3)); have n8_ := Aside0.mk ((by rw [hg]; exact Nat.ne_of_gt (blk_lt (g := gb0) (o := .cells #[.int .i64 a0_0, .int .i64 a0_1, .int .i64 a0_2, .string a0_3, .string a0_4] 23 (0, 0)) (by (with_reducible repeat (first | apply xN_ | apply xD_ | apply xA_)); exact BK0.out)) : gb3 ≠ gb0)); have n9_ := Aside0.mk ((by rw [hg]; exact Nat.ne_of_lt (blk_lt (g := gb1) (o := .cells #[.int .i64 a2_0, .int .i64 a2_1, .int .i64 a2_2, .string a2_3, .string a2_4] 23 (0, 0)) (by (with_reducible repeat (first | apply xN_ | apply xD_ | apply xA_)); exact BK1.out)) : gb1 ≠ gb3)); have n10_ := Aside0.mk ((by rw [hg]; exact Nat.ne_of_gt (blk_lt (g := gb1) (o := .cells #[.int .i64 a2_0, .int .i64 a2_1, .int .i64 a2_2, .string a2_3, .string a2_4] 23 (0, 0)) (by (with_reducible repeat (first | apply xN_ | apply xD_ | apply xA_)); exact BK1.out)) : gb3 ≠ gb1)); have n11_ := Aside0.mk ((by rw [hg]; exact Nat.ne_of_lt (blk_lt (g := gb2) (o := .cells #[.int .i64 t452, .int .i64 t453, .int .i64 t454, .string t455, .string t456] 23 (0, 0)) (by (with_reducible repeat (first | apply xN_ | apply xD_ | apply xA_)); exact BK2.out)) : gb2 ≠ gb3)); have n12_ := Aside0.mk ((by rw [hg]; exact Nat.ne_of_gt (blk_lt (g := gb2) (o := .cells #[.int .i64 t452, .int .i64 t453, .int .i64 t454, .string t455, .string t456] 23 (0, 0)) (by (with_reducible repeat (first | apply xN_ | apply xD_ | apply xA_)); exact BK2.out)) : gb3 ≠ gb2)); clear BK0; clear BK1; clear BK2; clear HB; have BK0 := n0_; have BK1 := n1_; have BK2 := n2_; have HB := n3_; have BK3 := n4_; have GW3 := n5_; have GE3 := n6_; have NB0_3 := n7_; have NB3_0 := n8_; have NB1_3 := n9_; have NB3_1 := n10_; have NB2_3 := n11_; have NB3_2 := n12_; clear n0_ n1_ n2_ n3_ n4_ n5_ n6_ n7_ n8_ n9_ n10_ n11_ n12_; clear hb hbox hg; have hnb104 := NB3_0.out; have hnc104 := NB0_3.out; have hnb105 := NB3_1.out; have hnc105 := NB1_3.out; have hnb106 := NB3_2.out; have hnc106 := NB2_3.out; have uz32_0 : w103.cell? ⟨gb3, 0, none⟩ = some (.int .i64 0) := (xC_ BK3.out 0).trans rfl; have uz32_1 : w103.cell? ⟨gb3, 1, none⟩ = some (.int .i64 0) := (xC_ BK3.out 1).trans rfl; have uz32_2 : w103.cell? ⟨gb3, 2, none⟩ = some (.int .i64 0) := (xC_ BK3.out 2).trans rfl; have uz32_3 : w103.cell? ⟨gb3, 3, none⟩ = some (.string (⟨#[]⟩ : ByteArray)) := (xC_ BK3.out 3).trans rfl; have uz32_4 : w103.cell? ⟨gb3, 4, none⟩ = some (.string (⟨#[]⟩ : ByteArray)) := (xC_ BK3.out 4).trans rfl; have fz32_0 := xF_ BK3.out 0; have fz32_1 := xF_ BK3.out 1; have fz32_2 := xF_ BK3.out 2; have fz32_3 := xF_ BK3.out 3; have fz32_4 := xF_ BK3.out 4))
        (try simp only [Act.put, List.setIfInBounds_toArray, List.set_cons_zero, List.set_cons_succ])
        go_cut [112] (fun v112 wc => ∃ (kq : Nat) (x112_97 : Bool), v112 = .bool x112_97 ∧ Aside0 (armadalaw07_VerBumps.j2 kq a1 x112_97 a0_0 a0_1 a0_2 a0_3 a0_4 a2_0 a2_1 a2_2 a2_3 a2_4 t452 t453 t454 t455 t456 = some true) ∧ Aside0 (kq ≤ kj24) ∧ Aside0 (wc.heap[gb0]? = some (.cells #[.int .i64 a0_0, .int .i64 a0_1, .int .i64 a0_2, .string a0_3, .string a0_4] 23 (0, 0))) ∧ Aside0 (wc.heap[gb1]? = some (.cells #[.int .i64 a2_0, .int .i64 a2_1, .int .i64 a2_2, .string a2_3, .string a2_4] 23 (0, 0))) ∧ Aside0 (wc.heap[gb2]? = some (.cells #[.int .i64 t452, .int .i64 t453, .int .i64 t454, .string t455, .string t456] 23 (0, 0))) ∧ Aside0 (wc.heap[gb3]? = some (.cells #[.int .i64 t465, .int .i64 t466, .int .i64 t467, .string t468, .string t469] 23 (0, 0))) ∧ Aside0 (Below w.heap.size w wc))
        case first =>
         have H := HC98.out
         clear HC98
         by_cases c108 : t470 = 0
         ·rw [if_pos c108] at H
          have c108b0 : (t470 == 0) = true := beq_iff_eq.mpr c108
          have c108b1 : (t470 != 0) = false := bne_eq_false_iff_eq.mpr c108
          clear c108
          (first | rw [c108b0] | (simp only [i64_w, i32_w]; rw [c108b0]) | skip)
          replace H := Option.bind_eq_some_iff.mp H
          obtain ⟨t472, A1090, H⟩ := H
          replace H : (armadalaw07_VerBumps.j2 kj24 a1 (decide (t472 < 0)) a0_0 a0_1 a0_2 a0_3 a0_4 a2_0 a2_1 a2_2 a2_3 a2_4 t452 t453 t454 t455 t456) = some true := H
          have A109 := Aside0.mk A1090
          clear A1090
          have H' := Aside0.mk H
          clear H
          have hnb110 := NB3_0.out
          have hnc110 := NB0_3.out
          have hnb111 := NB3_1.out
          have hnc111 := NB1_3.out
          have hnb112 := NB3_2.out
          have hnc112 := NB2_3.out
          have uz33_0 : w103.cell? ⟨gb3, 0, none⟩ = some (.int .i64 0) := (xC_ BK3.out 0).trans rfl
          have uz33_1 : w103.cell? ⟨gb3, 1, none⟩ = some (.int .i64 0) := (xC_ BK3.out 1).trans rfl
          have uz33_2 : w103.cell? ⟨gb3, 2, none⟩ = some (.int .i64 0) := (xC_ BK3.out 2).trans rfl
          have uz33_3 : w103.cell? ⟨gb3, 3, none⟩ = some (.string (⟨#[]⟩ : ByteArray)) := (xC_ BK3.out 3).trans rfl
          have uz33_4 : w103.cell? ⟨gb3, 4, none⟩ = some (.string (⟨#[]⟩ : ByteArray)) := (xC_ BK3.out 4).trans rfl
          have fz33_0 := xF_ BK3.out 0
          have fz33_1 := xF_ BK3.out 1
          have fz33_2 := xF_ BK3.out 2
          have fz33_3 := xF_ BK3.out 3
          have fz33_4 := xF_ BK3.out 4
          have hnb114 := NB2_0.out
          have hnc114 := NB0_2.out
          have hnb115 := NB2_1.out
          have hnc115 := NB1_2.out
          have uz34_0 : w103.cell? ⟨gb2, 0, none⟩ = some (.int .i64 t452) := (xC_ BK2.out 0).trans rfl
          have uz34_1 : w103.cell? ⟨gb2, 1, none⟩ = some (.int .i64 t453) := (xC_ BK2.out 1).trans rfl
          have uz34_2 : w103.cell? ⟨gb2, 2, none⟩ = some (.int .i64 t454) := (xC_ BK2.out 2).trans rfl
          have uz34_3 : w103.cell? ⟨gb2, 3, none⟩ = some (.string t455) := (xC_ BK2.out 3).trans rfl
          have uz34_4 : w103.cell? ⟨gb2, 4, none⟩ = some (.string t456) := (xC_ BK2.out 4).trans rfl
          have fz34_0 := xF_ BK2.out 0
          have fz34_1 := xF_ BK2.out 1
          have fz34_2 := xF_ BK2.out 2
          have fz34_3 := xF_ BK2.out 3
          have fz34_4 := xF_ BK2.out 4
          go_wp2_with (first | (go_at_call 19; (with_reducible refine (ver_Compare.calls kj24 t465 t466 t467 t468 t469 t452 t453 t454 t455 t456 t472 _ A109.out).mono ?_); rintro e w117 ⟨rfl, hb⟩; have n0_ := Aside0.mk (blk_below (g := gb0) (o := .cells #[.int .i64 a0_0, .int .i64 a0_1, .int .i64 a0_2, .string a0_3, .string a0_4] 23 (0, 0)) (by (with_reducible repeat (first | apply xN_ | apply xD_ | apply xA_)); refine xR_ ?_ NB0_3.out _; refine xR_ ?_ NB0_3.out _; refine xR_ ?_ NB0_3.out _; refine xR_ ?_ NB0_3.out _; refine xR_ ?_ NB0_3.out _; (with_reducible repeat (first | apply xN_ | apply xD_ | apply xA_)); exact BK0.out) hb); have n1_ := Aside0.mk (blk_below (g := gb1) (o := .cells #[.int .i64 a2_0, .int .i64 a2_1, .int .i64 a2_2, .string a2_3, .string a2_4] 23 (0, 0)) (by (with_reducible repeat (first | apply xN_ | apply xD_ | apply xA_)); refine xR_ ?_ NB1_3.out _; refine xR_ ?_ NB1_3.out _; refine xR_ ?_ NB1_3.out _; refine xR_ ?_ NB1_3.out _; refine xR_ ?_ NB1_3.out _; (with_reducible repeat (first | apply xN_ | apply xD_ | apply xA_)); exact BK1.out) hb); have n2_ := Aside0.mk (blk_below (g := gb2) (o := .cells #[.int .i64 t452, .int .i64 t453, .int .i64 t454, .string t455, .string t456] 23 (0, 0)) (by (with_reducible repeat (first | apply xN_ | apply xD_ | apply xA_)); refine xR_ ?_ NB2_3.out _; refine xR_ ?_ NB2_3.out _; refine xR_ ?_ NB2_3.out _; refine xR_ ?_ NB2_3.out _; refine xR_ ?_ NB2_3.out _; (with_reducible repeat (first | apply xN_ | apply xD_ | apply xA_)); exact BK2.out) hb); have n3_ := Aside0.mk (blk_below (g := gb3) (o := .cells #[.int .i64 t465, .int .i64 t466, .int .i64 t467, .string t468, .string t469] 23 (0, 0)) (by (with_reducible repeat (first | apply xN_ | apply xD_ | apply xA_)); refine blk_put (cs := #[.int .i64 t465, .int .i64 t466, .int .i64 t467, .string t468, .string (⟨#[]⟩ : ByteArray)]) ?_ 4 _ rfl; refine blk_put (cs := #[.int .i64 t465, .int .i64 t466, .int .i64 t467, .string (⟨#[]⟩ : ByteArray), .string (⟨#[]⟩ : ByteArray)]) ?_ 3 _ rfl; refine blk_put (cs := #[.int .i64 t465, .int .i64 t466, .int .i64 0, .string (⟨#[]⟩ : ByteArray), .string (⟨#[]⟩ : ByteArray)]) ?_ 2 _ rfl; refine blk_put (cs := #[.int .i64 t465, .int .i64 0, .int .i64 0, .string (⟨#[]⟩ : ByteArray), .string (⟨#[]⟩ : ByteArray)]) ?_ 1 _ rfl; refine blk_put (cs := #[.int .i64 0, .int .i64 0, .int .i64 0, .string (⟨#[]⟩ : ByteArray), .string (⟨#[]⟩ : ByteArray)]) ?_ 0 _ rfl; (with_reducible repeat (first | apply xN_ | apply xD_ | apply xA_)); exact BK3.out) hb); have n4_ := Aside0.mk (below_step (by repeat (first | (with_reducible first | exact HB.out | apply yA_ | apply yN_ | apply yD_ | refine yS_ ?_ GE0.out | refine yS_ ?_ GE1.out | refine yS_ ?_ GE2.out | refine yS_ ?_ GE3.out) | exact HB.out)) hb); clear BK0; clear BK1; clear BK2; clear BK3; clear HB; have BK0 := n0_; have BK1 := n1_; have BK2 := n2_; have BK3 := n3_; have HB := n4_; clear n0_ n1_ n2_ n3_ n4_; (try clear hb)))
          go_meet
          case rel => exact ⟨_, (decide (t472 < 0)), (by first | rfl | (simp; done) | (simp [*]; done)), H', ⟨by have := HJ3.out; have := HJ24.out; first | omega | exact Nat.le_refl _⟩, ⟨by (with_reducible repeat (first | apply xN_ | apply xD_ | apply xA_)); exact BK0.out⟩, ⟨by (with_reducible repeat (first | apply xN_ | apply xD_ | apply xA_)); exact BK1.out⟩, ⟨by (with_reducible repeat (first | apply xN_ | apply xD_ | apply xA_)); exact BK2.out⟩, ⟨by (with_reducible repeat (first | apply xN_ | apply xD_ | apply xA_)); exact BK3.out⟩, ⟨by repeat (first | (with_reducible first | exact HB.out | apply yA_ | apply yN_ | apply yD_ | refine yS_ ?_ GE0.out | refine yS_ ?_ GE1.out | refine yS_ ?_ GE2.out | refine yS_ ?_ GE3.out) | exact HB.out)⟩⟩
         ·rw [if_neg c108] at H
          have c108b0 : (t470 == 0) = false := beq_eq_false_iff_ne.mpr c108
          have c108b1 : (t470 != 0) = true := bne_iff_ne.mpr c108
          (first | rw [c108b0] | (simp only [i64_w, i32_w]; rw [c108b0]) | skip)
          have H' := Aside0.mk H
          clear H
          go_wp2
          go_meet
          case rel => exact ⟨_, (false), (by first | rfl | (simp; done) | (simp [*]; done)), H', ⟨by have := HJ3.out; have := HJ24.out; first | omega | exact Nat.le_refl _⟩, ⟨by (with_reducible repeat (first | apply xN_ | apply xD_ | apply xA_)); refine xR_ ?_ NB0_3.out _; refine xR_ ?_ NB0_3.out _; refine xR_ ?_ NB0_3.out _; refine xR_ ?_ NB0_3.out _; refine xR_ ?_ NB0_3.out _; (with_reducible repeat (first | apply xN_ | apply xD_ | apply xA_)); exact BK0.out⟩, ⟨by (with_reducible repeat (first | apply xN_ | apply xD_ | apply xA_)); refine xR_ ?_ NB1_3.out _; refine xR_ ?_ NB1_3.out _; refine xR_ ?_ NB1_3.out _; refine xR_ ?_ NB1_3.out _; refine xR_ ?_ NB1_3.out _; (with_reducible repeat (first | apply xN_ | apply xD_ | apply xA_)); exact BK1.out⟩, ⟨by (with_reducible repeat (first | apply xN_ | apply xD_ | apply xA_)); refine xR_ ?_ NB2_3.out _; refine xR_ ?_ NB2_3.out _; refine xR_ ?_ NB2_3.out _; refine xR_ ?_ NB2_3.out _; refine xR_ ?_ NB2_3.out _; (with_reducible repeat (first | apply xN_ | apply xD_ | apply xA_)); exact BK2.out⟩, ⟨by (with_reducible repeat (first | apply xN_ | apply xD_ | apply xA_)); refine blk_put (cs := #[.int .i64 t465, .int .i64 t466, .int .i64 t467, .string t468, .string (⟨#[]⟩ : ByteArray)]) ?_ 4 _ rfl; refine blk_put (cs := #[.int .i64 t465, .int .i64 t466, .int .i64 t467, .string (⟨#[]⟩ : ByteArray), .string (⟨#[]⟩ : ByteArray)]) ?_ 3 _ rfl; refine blk_put (cs := #[.int .i64 t465, .int .i64 t466, .int .i64 0, .string (⟨#[]⟩ : ByteArray), .string (⟨#[]⟩ : ByteArray)]) ?_ 2 _ rfl; refine blk_put (cs := #[.int .i64 t465, .int .i64 0, .int .i64 0, .string (⟨#[]⟩ : ByteArray), .string (⟨#[]⟩ : ByteArray)]) ?_ 1 _ rfl; refine blk_put (cs := #[.int .i64 0, .int .i64 0, .int .i64 0, .string (⟨#[]⟩ : ByteArray), .string (⟨#[]⟩ : ByteArray)]) ?_ 0 _ rfl; (with_reducible repeat (first | apply xN_ | apply xD_ | apply xA_)); exact BK3.out⟩, ⟨by repeat (first | (with_reducible first | exact HB.out | apply yA_ | apply yN_ | apply yD_ | refine yS_ ?_ GE0.out | refine yS_ ?_ GE1.out | refine yS_ ?_ GE2.out | refine yS_ ?_ GE3.out) | exact HB.out)⟩⟩
        case rest =>
         clear HC98
         (try clear c1); (try clear c2); (try clear p2); (try clear c3); (try clear c4); (try clear c5); (try clear c6); (try clear p6); (try clear c7); (try clear c7b0)
         (try clear c7b1); (try clear c8); (try clear c9); (try clear c10); (try clear c10b0); (try clear c10b1); (try clear c11); (try clear c13); (try clear c13b0)
         (try clear c13b1); (try clear c14); (try clear c17); (try clear c19); (try clear c20); (try clear c24); (try clear c24b0); (try clear c24b1); (try clear c26)
         (try clear c30); (try clear c31); (try clear c34); (try clear c34b0); (try clear c34b1); (try clear c35); (try clear c35b0); (try clear c35b1); (try clear c36)
         (try clear c36b0); (try clear c36b1); (try clear c37); (try clear c37b0); (try clear c38); (try clear c38b0); (try clear c38b1); (try clear c39); (try clear c39b0)
         (try clear c39b1); (try clear c40); (try clear c41); (try clear c43); (try clear c47); (try clear c48); (try clear c50); (try clear c54); (try clear c55)
         (try clear c57); (try clear c61); (try clear c61b0); (try clear c61b1); (try clear c62); (try clear c63); (try clear p64); (try clear c65); (try clear c69)
         (try clear c70); (try clear c72); (try clear c76); (try clear c77); (try clear c79); (try clear c83); (try clear c84); (try clear c86); (try clear c90)
         (try clear c91); (try clear c93); (try clear c96); (try clear c99); (try clear c100); (try clear c104); (try clear c105); (try clear c106); (try clear c108)
         (try clear c108b0); (try clear c108b1); (try clear c110); (try clear c111); (try clear c112); (try clear c114); (try clear c115); (try clear uz31_0); (try clear uz31_1)
         (try clear uz31_2); (try clear uz31_3); (try clear uz31_4); (try clear uz32_0); (try clear uz32_1); (try clear uz32_2); (try clear uz32_3); (try clear uz32_4)
         (try clear uz33_0); (try clear uz33_1); (try clear uz33_2); (try clear uz33_3); (try clear uz33_4); (try clear uz34_0); (try clear uz34_1); (try clear uz34_2)
         (try clear uz34_3); (try clear uz34_4); (try clear uz1_0); (try clear uz1_1); (try clear uz1_2); (try clear uz1_3); (try clear uz1_4); (try clear uz2_0)
         (try clear uz2_1); (try clear uz2_2); (try clear uz2_3); (try clear uz2_4); (try clear uz3_0); (try clear uz3_1); (try clear uz3_2); (try clear uz3_3); (try clear uz3_4)
         (try clear uz4_0); (try clear uz4_1); (try clear uz4_2); (try clear uz4_3); (try clear uz4_4); (try clear uz5_0); (try clear uz5_1); (try clear uz5_2); (try clear uz5_3)
         (try clear uz5_4); (try clear uz6_0); (try clear uz6_1); (try clear uz6_2); (try clear uz6_3); (try clear uz6_4); (try clear uz7_0); (try clear uz7_1); (try clear uz7_2)
         (try clear uz7_3); (try clear uz7_4); (try clear uz8_0); (try clear uz8_1); (try clear uz8_2); (try clear uz8_3); (try clear uz8_4); (try clear uz9_0); (try clear uz9_1)
         (try clear uz9_2); (try clear uz9_3); (try clear uz9_4); (try clear uz10_0); (try clear uz10_1); (try clear uz10_2); (try clear uz10_3); (try clear uz10_4)
         (try clear uz11_0); (try clear uz11_1); (try clear uz11_2); (try clear uz11_3); (try clear uz11_4); (try clear uz12_0); (try clear uz12_1); (try clear uz12_2)
         (try clear uz12_3); (try clear uz12_4); (try clear uz13_0); (try clear uz13_1); (try clear uz13_2); (try clear uz13_3); (try clear uz13_4); (try clear uz14_0)
         (try clear uz14_1); (try clear uz14_2); (try clear uz14_3); (try clear uz14_4); (try clear uz15_0); (try clear uz15_1); (try clear uz15_2); (try clear uz15_3)
         (try clear uz15_4); (try clear uz16_0); (try clear uz16_1); (try clear uz16_2); (try clear uz16_3); (try clear uz16_4); (try clear uz17_0); (try clear uz17_1)
         (try clear uz17_2); (try clear uz17_3); (try clear uz17_4); (try clear uz18_0); (try clear uz18_1); (try clear uz18_2); (try clear uz18_3); (try clear uz18_4)
         (try clear uz19_0); (try clear uz19_1); (try clear uz19_2); (try clear uz19_3); (try clear uz19_4); (try clear uz20_0); (try clear uz20_1); (try clear uz20_2)
         (try clear uz20_3); (try clear uz20_4); (try clear uz21_0); (try clear uz21_1); (try clear uz21_2); (try clear uz21_3); (try clear uz21_4); (try clear uz22_0)
         (try clear uz22_1); (try clear uz22_2); (try clear uz22_3); (try clear uz22_4); (try clear uz23_0); (try clear uz23_1); (try clear uz23_2); (try clear uz23_3)
         (try clear uz23_4); (try clear uz24_0); (try clear uz24_1); (try clear uz24_2); (try clear uz24_3); (try clear uz24_4); (try clear uz25_0); (try clear uz25_1)
         (try clear uz25_2); (try clear uz25_3); (try clear uz25_4); (try clear uz26_0); (try clear uz26_1); (try clear uz26_2); (try clear uz26_3); (try clear uz26_4)
         (try clear uz27_0); (try clear uz27_1); (try clear uz27_2); (try clear uz27_3); (try clear uz27_4); (try clear uz28_0); (try clear uz28_1); (try clear uz28_2)
         (try clear uz28_3); (try clear uz28_4); (try clear uz29_0); (try clear uz29_1); (try clear uz29_2); (try clear uz29_3); (try clear uz29_4); (try clear uz30_0)
         (try clear uz30_1); (try clear uz30_2); (try clear uz30_3); (try clear uz30_4); (try clear uz0_0); (try clear uz0_1); (try clear uz0_2); (try clear uz0_3)
         (try clear uz0_4); (try clear fz31_0); (try clear fz31_1); (try clear fz31_2); (try clear fz31_3); (try clear fz31_4); (try clear fz32_0); (try clear fz32_1)
         (try clear fz32_2); (try clear fz32_3); (try clear fz32_4); (try clear fz33_0); (try clear fz33_1); (try clear fz33_2); (try clear fz33_3); (try clear fz33_4)
         (try clear fz34_0); (try clear fz34_1); (try clear fz34_2); (try clear fz34_3); (try clear fz34_4); (try clear fz1_0); (try clear fz1_1); (try clear fz1_2)
         (try clear fz1_3); (try clear fz1_4); (try clear fz2_0); (try clear fz2_1); (try clear fz2_2); (try clear fz2_3); (try clear fz2_4); (try clear fz3_0); (try clear fz3_1)
         (try clear fz3_2); (try clear fz3_3); (try clear fz3_4); (try clear fz4_0); (try clear fz4_1); (try clear fz4_2); (try clear fz4_3); (try clear fz4_4); (try clear fz5_0)
         (try clear fz5_1); (try clear fz5_2); (try clear fz5_3); (try clear fz5_4); (try clear fz6_0); (try clear fz6_1); (try clear fz6_2); (try clear fz6_3); (try clear fz6_4)
         (try clear fz7_0); (try clear fz7_1); (try clear fz7_2); (try clear fz7_3); (try clear fz7_4); (try clear fz8_0); (try clear fz8_1); (try clear fz8_2); (try clear fz8_3)
         (try clear fz8_4); (try clear fz9_0); (try clear fz9_1); (try clear fz9_2); (try clear fz9_3); (try clear fz9_4); (try clear fz10_0); (try clear fz10_1)
         (try clear fz10_2); (try clear fz10_3); (try clear fz10_4); (try clear fz11_0); (try clear fz11_1); (try clear fz11_2); (try clear fz11_3); (try clear fz11_4)
         (try clear fz12_0); (try clear fz12_1); (try clear fz12_2); (try clear fz12_3); (try clear fz12_4); (try clear fz13_0); (try clear fz13_1); (try clear fz13_2)
         (try clear fz13_3); (try clear fz13_4); (try clear fz14_0); (try clear fz14_1); (try clear fz14_2); (try clear fz14_3); (try clear fz14_4); (try clear fz15_0)
         (try clear fz15_1); (try clear fz15_2); (try clear fz15_3); (try clear fz15_4); (try clear fz16_0); (try clear fz16_1); (try clear fz16_2); (try clear fz16_3)
         (try clear fz16_4); (try clear fz17_0); (try clear fz17_1); (try clear fz17_2); (try clear fz17_3); (try clear fz17_4); (try clear fz18_0); (try clear fz18_1)
         (try clear fz18_2); (try clear fz18_3); (try clear fz18_4); (try clear fz19_0); (try clear fz19_1); (try clear fz19_2); (try clear fz19_3); (try clear fz19_4)
         (try clear fz20_0); (try clear fz20_1); (try clear fz20_2); (try clear fz20_3); (try clear fz20_4); (try clear fz21_0); (try clear fz21_1); (try clear fz21_2)
         (try clear fz21_3); (try clear fz21_4); (try clear fz22_0); (try clear fz22_1); (try clear fz22_2); (try clear fz22_3); (try clear fz22_4); (try clear fz23_0)
         (try clear fz23_1); (try clear fz23_2); (try clear fz23_3); (try clear fz23_4); (try clear fz24_0); (try clear fz24_1); (try clear fz24_2); (try clear fz24_3)
         (try clear fz24_4); (try clear fz25_0); (try clear fz25_1); (try clear fz25_2); (try clear fz25_3); (try clear fz25_4); (try clear fz26_0); (try clear fz26_1)
         (try clear fz26_2); (try clear fz26_3); (try clear fz26_4); (try clear fz27_0); (try clear fz27_1); (try clear fz27_2); (try clear fz27_3); (try clear fz27_4)
         (try clear fz28_0); (try clear fz28_1); (try clear fz28_2); (try clear fz28_3); (try clear fz28_4); (try clear fz29_0); (try clear fz29_1); (try clear fz29_2)
         (try clear fz29_3); (try clear fz29_4); (try clear fz30_0); (try clear fz30_1); (try clear fz30_2); (try clear fz30_3); (try clear fz30_4); (try clear fz0_0)
         (try clear fz0_1); (try clear fz0_2); (try clear fz0_3); (try clear fz0_4); (try clear p2)
         obtain ⟨kq, x112_97, rfl, HA, HJ97, BK0, BK1, BK2, BK3, HB⟩ := hcut
         cases kq with
         | zero => exact absurd HA.out (by simp [armadalaw07_VerBumps.j2])
         | succ kj97 =>
          have H := HA.out
          clear HA
          simp only [armadalaw07_VerBumps.j2] at H
          by_cases c118 : x112_97 = true
          ·subst c118
           have H1 : (some false) = some true := by rw [if_pos rfl] at H; exact H
           clear H
           have H := H1
           clear H1
           exact absurd H (by simp)
          ·replace c118 := Bool.eq_false_iff.mpr c118
           subst c118
           have H1 : ((ver_Check.f a2_0 a2_1 a2_2 a2_3 a2_4).bind fun t473 => (if t473 = true then (if a2_3.toList = ([] : List UInt8) then (if a1 < 2 then (if a1 < 3 then ((ver_Compare.f kj97 a2_0 a2_1 a2_2 a2_3 a2_4 a0_0 a0_1 a0_2 a0_3 a0_4).bind fun t474 => (if t474 ≤ 0 then ((armadalaw07_live.f kj97).bind fun t475 => (some t475)) else ((ver_Compare.f kj97 a2_0 a2_1 a2_2 a2_3 a2_4 t452 t453 t454 t455 t456).bind fun t476 => (if t476 ≥ 0 then ((armadalaw07_live.f kj97).bind fun t477 => (some t477)) else (some false))))) else (if a2_1 = 0 then ((ver_Compare.f kj97 a2_0 a2_1 a2_2 a2_3 a2_4 a0_0 a0_1 a0_2 a0_3 a0_4).bind fun t478 => (if t478 ≤ 0 then ((armadalaw07_live.f kj97).bind fun t479 => (some t479)) else ((ver_Compare.f kj97 a2_0 a2_1 a2_2 a2_3 a2_4 t452 t453 t454 t455 t456).bind fun t480 => (if t480 ≥ 0 then ((armadalaw07_live.f kj97).bind fun t481 => (some t481)) else (some false))))) else ((armadalaw07_live.f kj97).bind fun t482 => (some t482)))) else (if a2_2 = 0 then (if a1 < 3 then ((ver_Compare.f kj97 a2_0 a2_1 a2_2 a2_3 a2_4 a0_0 a0_1 a0_2 a0_3 a0_4).bind fun t483 => (if t483 ≤ 0 then ((armadalaw07_live.f kj97).bind fun t484 => (some t484)) else ((ver_Compare.f kj97 a2_0 a2_1 a2_2 a2_3 a2_4 t452 t453 t454 t455 t456).bind fun t485 => (if t485 ≥ 0 then ((armadalaw07_live.f kj97).bind fun t486 => (some t486)) else (some false))))) else (if a2_1 = 0 then ((ver_Compare.f kj97 a2_0 a2_1 a2_2 a2_3 a2_4 a0_0 a0_1 a0_2 a0_3 a0_4).bind fun t487 => (if t487 ≤ 0 then ((armadalaw07_live.f kj97).bind fun t488 => (some t488)) else ((ver_Compare.f kj97 a2_0 a2_1 a2_2 a2_3 a2_4 t452 t453 t454 t455 t456).bind fun t489 => (if t489 ≥ 0 then ((armadalaw07_live.f kj97).bind fun t490 => (some t490)) else (some false))))) else ((armadalaw07_live.f kj97).bind fun t491 => (some t491)))) else ((armadalaw07_live.f kj97).bind fun t492 => (some t492)))) else ((armadalaw07_live.f kj97).bind fun t493 => (some t493))) else ((armadalaw07_live.f kj97).bind fun t494 => (some t494)))) = some true := by rw [if_neg (show ¬ (false = true) by decide)] at H; exact H
           clear H
           have H := H1
           clear H1
           replace H := Option.bind_eq_some_iff.mp H
           obtain ⟨t473, A1190, H⟩ := H
           replace H : (if t473 = true then (if a2_3.toList = ([] : List UInt8) then (if a1 < 2 then (if a1 < 3 then ((ver_Compare.f kj97 a2_0 a2_1 a2_2 a2_3 a2_4 a0_0 a0_1 a0_2 a0_3 a0_4).bind fun t474 => (if t474 ≤ 0 then ((armadalaw07_live.f kj97).bind fun t475 => (some t475)) else ((ver_Compare.f kj97 a2_0 a2_1 a2_2 a2_3 a2_4 t452 t453 t454 t455 t456).bind fun t476 => (if t476 ≥ 0 then ((armadalaw07_live.f kj97).bind fun t477 => (some t477)) else (some false))))) else (if a2_1 = 0 then ((ver_Compare.f kj97 a2_0 a2_1 a2_2 a2_3 a2_4 a0_0 a0_1 a0_2 a0_3 a0_4).bind fun t478 => (if t478 ≤ 0 then ((armadalaw07_live.f kj97).bind fun t479 => (some t479)) else ((ver_Compare.f kj97 a2_0 a2_1 a2_2 a2_3 a2_4 t452 t453 t454 t455 t456).bind fun t480 => (if t480 ≥ 0 then ((armadalaw07_live.f kj97).bind fun t481 => (some t481)) else (some false))))) else ((armadalaw07_live.f kj97).bind fun t482 => (some t482)))) else (if a2_2 = 0 then (if a1 < 3 then ((ver_Compare.f kj97 a2_0 a2_1 a2_2 a2_3 a2_4 a0_0 a0_1 a0_2 a0_3 a0_4).bind fun t483 => (if t483 ≤ 0 then ((armadalaw07_live.f kj97).bind fun t484 => (some t484)) else ((ver_Compare.f kj97 a2_0 a2_1 a2_2 a2_3 a2_4 t452 t453 t454 t455 t456).bind fun t485 => (if t485 ≥ 0 then ((armadalaw07_live.f kj97).bind fun t486 => (some t486)) else (some false))))) else (if a2_1 = 0 then ((ver_Compare.f kj97 a2_0 a2_1 a2_2 a2_3 a2_4 a0_0 a0_1 a0_2 a0_3 a0_4).bind fun t487 => (if t487 ≤ 0 then ((armadalaw07_live.f kj97).bind fun t488 => (some t488)) else ((ver_Compare.f kj97 a2_0 a2_1 a2_2 a2_3 a2_4 t452 t453 t454 t455 t456).bind fun t489 => (if t489 ≥ 0 then ((armadalaw07_live.f kj97).bind fun t490 => (some t490)) else (some false))))) else ((armadalaw07_live.f kj97).bind fun t491 => (some t491)))) else ((armadalaw07_live.f kj97).bind fun t492 => (some t492)))) else ((armadalaw07_live.f kj97).bind fun t493 => (some t493))) else ((armadalaw07_live.f kj97).bind fun t494 => (some t494))) = some true := H
           have A119 := Aside0.mk A1190
           clear A1190
           by_cases c120 : t473 = true
           ·subst c120
            have H1 : (if a2_3.toList = ([] : List UInt8) then (if a1 < 2 then (if a1 < 3 then ((ver_Compare.f kj97 a2_0 a2_1 a2_2 a2_3 a2_4 a0_0 a0_1 a0_2 a0_3 a0_4).bind fun t474 => (if t474 ≤ 0 then ((armadalaw07_live.f kj97).bind fun t475 => (some t475)) else ((ver_Compare.f kj97 a2_0 a2_1 a2_2 a2_3 a2_4 t452 t453 t454 t455 t456).bind fun t476 => (if t476 ≥ 0 then ((armadalaw07_live.f kj97).bind fun t477 => (some t477)) else (some false))))) else (if a2_1 = 0 then ((ver_Compare.f kj97 a2_0 a2_1 a2_2 a2_3 a2_4 a0_0 a0_1 a0_2 a0_3 a0_4).bind fun t478 => (if t478 ≤ 0 then ((armadalaw07_live.f kj97).bind fun t479 => (some t479)) else ((ver_Compare.f kj97 a2_0 a2_1 a2_2 a2_3 a2_4 t452 t453 t454 t455 t456).bind fun t480 => (if t480 ≥ 0 then ((armadalaw07_live.f kj97).bind fun t481 => (some t481)) else (some false))))) else ((armadalaw07_live.f kj97).bind fun t482 => (some t482)))) else (if a2_2 = 0 then (if a1 < 3 then ((ver_Compare.f kj97 a2_0 a2_1 a2_2 a2_3 a2_4 a0_0 a0_1 a0_2 a0_3 a0_4).bind fun t483 => (if t483 ≤ 0 then ((armadalaw07_live.f kj97).bind fun t484 => (some t484)) else ((ver_Compare.f kj97 a2_0 a2_1 a2_2 a2_3 a2_4 t452 t453 t454 t455 t456).bind fun t485 => (if t485 ≥ 0 then ((armadalaw07_live.f kj97).bind fun t486 => (some t486)) else (some false))))) else (if a2_1 = 0 then ((ver_Compare.f kj97 a2_0 a2_1 a2_2 a2_3 a2_4 a0_0 a0_1 a0_2 a0_3 a0_4).bind fun t487 => (if t487 ≤ 0 then ((armadalaw07_live.f kj97).bind fun t488 => (some t488)) else ((ver_Compare.f kj97 a2_0 a2_1 a2_2 a2_3 a2_4 t452 t453 t454 t455 t456).bind fun t489 => (if t489 ≥ 0 then ((armadalaw07_live.f kj97).bind fun t490 => (some t490)) else (some false))))) else ((armadalaw07_live.f kj97).bind fun t491 => (some t491)))) else ((armadalaw07_live.f kj97).bind fun t492 => (some t492)))) else ((armadalaw07_live.f kj97).bind fun t493 => (some t493))) = some true := by rw [if_pos rfl] at H; exact H
            clear H
            have H := H1
            clear H1
            by_cases c121 : a2_3.toList = ([] : List UInt8)
            ·rw [if_pos c121] at H
             have c121b0 : (a2_3.toList == ([] : List UInt8)) = true := beq_iff_eq.mpr c121
             have c121be : a2_3.toList.isEmpty = true := by simpa using c121b0
             (try rw [c121be])
             (try simp only [Bool.not_true, Bool.not_false])
             have c121b1 : (a2_3.toList != ([] : List UInt8)) = false := bne_eq_false_iff_eq.mpr c121
             clear c121
             by_cases c122 : a1 < 2
             ·rw [if_pos c122] at H
              have c122b0 : decide (a1 < 2) = true := decide_eq_true c122
              clear c122
              by_cases c123 : a1 < 3
              ·rw [if_pos c123] at H
               have c123b0 : decide (a1 < 3) = true := decide_eq_true c123
               clear c123
               replace H := Option.bind_eq_some_iff.mp H
               obtain ⟨t474, A1240, H⟩ := H
               replace H : (if t474 ≤ 0 then ((armadalaw07_live.f kj97).bind fun t475 => (some t475)) else ((ver_Compare.f kj97 a2_0 a2_1 a2_2 a2_3 a2_4 t452 t453 t454 t455 t456).bind fun t476 => (if t476 ≥ 0 then ((armadalaw07_live.f kj97).bind fun t477 => (some t477)) else (some false)))) = some true := H
               have A124 := Aside0.mk A1240
               clear A1240
               by_cases c125 : t474 ≤ 0
               ·rw [if_pos c125] at H
                have c125b0 : decide (t474 ≤ 0) = true := decide_eq_true c125
                clear c125
                replace H := Option.bind_eq_some_iff.mp H
                obtain ⟨t475, A1260, H⟩ := H
                replace H : (some t475) = some true := H
                have A126 := Aside0.mk A1260
                clear A1260
                obtain rfl := Option.some.inj H
                have hnb127 := NB1_0.out
                have hnc127 := NB0_1.out
                have hnb128 := NB1_2.out
                have hnc128 := NB2_1.out
                have hnb129 := NB1_3.out
                have hnc129 := NB3_1.out
                have uz35_0 : wc.cell? ⟨gb1, 0, none⟩ = some (.int .i64 a2_0) := (xC_ BK1.out 0).trans rfl
                have uz35_1 : wc.cell? ⟨gb1, 1, none⟩ = some (.int .i64 a2_1) := (xC_ BK1.out 1).trans rfl
                have uz35_2 : wc.cell? ⟨gb1, 2, none⟩ = some (.int .i64 a2_2) := (xC_ BK1.out 2).trans rfl
                have uz35_3 : wc.cell? ⟨gb1, 3, none⟩ = some (.string a2_3) := (xC_ BK1.out 3).trans rfl
                have uz35_4 : wc.cell? ⟨gb1, 4, none⟩ = some (.string a2_4) := (xC_ BK1.out 4).trans rfl
                have fz35_0 := xF_ BK1.out 0
                have fz35_1 := xF_ BK1.out 1
                have fz35_2 := xF_ BK1.out 2
                have fz35_3 := xF_ BK1.out 3
                have fz35_4 := xF_ BK1.out 4
                go_wp2_with (first | ((with_reducible refine gate_callee (f := 13) rfl ?_); refine goesL_ (some 114) rfl rfl Tryd.func13 (by kernel_rfl) rfl #[.agg #[.int .i64 a2_0, .int .i64 a2_1, .int .i64 a2_2, .string a2_3, .string a2_4]] rfl (by (try simp only [List.map_toArray, List.map_cons, List.map_nil]); first | done | rfl) ?_; (with_reducible refine (ver_Check.calls a2_0 a2_1 a2_2 a2_3 a2_4 true _ A119.out).mono ?_); rintro e w131 ⟨rfl, hb⟩; refine ⟨_, rfl, ?_⟩; have n0_ := Aside0.mk (blk_below (g := gb0) (o := .cells #[.int .i64 a0_0, .int .i64 a0_1, .int .i64 a0_2, .string a0_3, .string a0_4] 23 (0, 0)) (by (with_reducible repeat (first | apply xN_ | apply xD_ | apply xA_)); exact BK0.out) hb); have n1_ := Aside0.mk (blk_below (g := gb1) (o := .cells #[.int .i64 a2_0, .int .i64 a2_1, .int .i64 a2_2, .string a2_3, .string a2_4] 23 (0, 0)) (by (with_reducible repeat (first | apply xN_ | apply xD_ | apply xA_)); exact BK1.out) hb); have n2_ := Aside0.mk (blk_below (g := gb2) (o := .cells #[.int .i64 t452, .int .i64 t453, .int .i64 t454, .string t455, .string t456] 23 (0, 0)) (by (with_reducible repeat (first | apply xN_ | apply xD_ | apply xA_)); exact BK2.out) hb); have n3_ := Aside0.mk (blk_below (g := gb3) (o := .cells #[.int .i64 t465, .int .i64 t466, .int .i64 t467, .string t468, .string t469] 23 (0, 0)) (by (with_reducible repeat (first | apply xN_ | apply xD_ | apply xA_)); exact BK3.out) hb); have n4_ := Aside0.mk (below_step (by repeat (first | (with_reducible first | exact HB.out | apply yA_ | apply yN_ | apply yD_ | refine yS_ ?_ GE0.out | refine yS_ ?_ GE1.out | refine yS_ ?_ GE2.out | refine yS_ ?_ GE3.out) | exact HB.out)) hb); clear BK0; clear BK1; clear BK2; clear BK3; clear HB; have BK0 := n0_; have BK1 := n1_; have BK2 := n2_; have BK3 := n3_; have HB := n4_; clear n0_ n1_ n2_ n3_ n4_; (try clear hb); have uz36_0 : w131.cell? ⟨gb1, 0, none⟩ = some (.int .i64 a2_0) := (xC_ BK1.out 0).trans rfl; have uz36_1 : w131.cell? ⟨gb1, 1, none⟩ = some (.int .i64 a2_1) := (xC_ BK1.out 1).trans rfl; have uz36_2 : w131.cell? ⟨gb1, 2, none⟩ = some (.int .i64 a2_2) := (xC_ BK1.out 2).trans rfl; have uz36_3 : w131.cell? ⟨gb1, 3, none⟩ = some (.string a2_3) := (xC_ BK1.out 3).trans rfl; have uz36_4 : w131.cell? ⟨gb1, 4, none⟩ = some (.string a2_4) := (xC_ BK1.out 4).trans rfl; have fz36_0 := xF_ BK1.out 0; have fz36_1 := xF_ BK1.out 1; have fz36_2 := xF_ BK1.out 2; have fz36_3 := xF_ BK1.out 3; have fz36_4 := xF_ BK1.out 4; have hnb133 := NB0_2.out; have hnc133 := NB2_0.out; have hnb134 := NB0_3.out; have hnc134 := NB3_0.out; have uz37_0 : w131.cell? ⟨gb0, 0, none⟩ = some (.int .i64 a0_0) := (xC_ BK0.out 0).trans rfl; have uz37_1 : w131.cell? ⟨gb0, 1, none⟩ = some (.int .i64 a0_1) := (xC_ BK0.out 1).trans rfl; have uz37_2 : w131.cell? ⟨gb0, 2, none⟩ = some (.int .i64 a0_2) := (xC_ BK0.out 2).trans rfl; have uz37_3 : w131.cell? ⟨gb0, 3, none⟩ = some (.string a0_3) := (xC_ BK0.out 3).trans rfl; have uz37_4 : w131.cell? ⟨gb0, 4, none⟩ = some (.string a0_4) := (xC_ BK0.out 4).trans rfl; have fz37_0 := xF_ BK0.out 0; have fz37_1 := xF_ BK0.out 1; have fz37_2 := xF_ BK0.out 2; have fz37_3 := xF_ BK0.out 3; have fz37_4 := xF_ BK0.out 4) | (go_at_call 19; (with_reducible refine (ver_Compare.calls kj97 a2_0 a2_1 a2_2 a2_3 a2_4 a0_0 a0_1 a0_2 a0_3 a0_4 t474 _ A124.out).mono ?_); rintro e w136 ⟨rfl, hb⟩; have n0_ := Aside0.mk (blk_below (g := gb0) (o := .cells #[.int .i64 a0_0, .int .i64 a0_1, .int .i64 a0_2, .string a0_3, .string a0_4] 23 (0, 0)) (by (with_reducible repeat (first | apply xN_ | apply xD_ | apply xA_)); exact BK0.out) hb); have n1_ := Aside0.mk (blk_below (g := gb1) (o := .cells #[.int .i64 a2_0, .int .i64 a2_1, .int .i64 a2_2, .string a2_3, .string a2_4] 23 (0, 0)) (by (with_reducible repeat (first | apply xN_ | apply xD_ | apply xA_)); exact BK1.out) hb); have n2_ := Aside0.mk (blk_below (g := gb2) (o := .cells #[.int .i64 t452, .int .i64 t453, .int .i64 t454, .string t455, .string t456] 23 (0, 0)) (by (with_reducible repeat (first | apply xN_ | apply xD_ | apply xA_)); exact BK2.out) hb); have n3_ := Aside0.mk (blk_below (g := gb3) (o := .cells #[.int .i64 t465, .int .i64 t466, .int .i64 t467, .string t468, .string t469] 23 (0, 0)) (by (with_reducible repeat (first | apply xN_ | apply xD_ | apply xA_)); exact BK3.out) hb); have n4_ := Aside0.mk (below_step (by repeat (first | (with_reducible first | exact HB.out | apply yA_ | apply yN_ | apply yD_ | refine yS_ ?_ GE0.out | refine yS_ ?_ GE1.out | refine yS_ ?_ GE2.out | refine yS_ ?_ GE3.out) | exact HB.out)) hb); clear BK0; clear BK1; clear BK2; clear BK3; clear HB; have BK0 := n0_; have BK1 := n1_; have BK2 := n2_; have BK3 := n3_; have HB := n4_; clear n0_ n1_ n2_ n3_ n4_; (try clear hb)) | (go_at_call 10; (with_reducible refine (armadalaw07_live.calls kj97  true _ A126.out (LW0 := LW.out.below (by repeat (first | (with_reducible first | exact HB.out | apply yA_ | apply yN_ | apply yD_ | refine yS_ ?_ GE0.out | refine yS_ ?_ GE1.out | refine yS_ ?_ GE2.out | refine yS_ ?_ GE3.out) | exact HB.out)))).mono ?_); rintro e w137 ⟨rfl, hb⟩; have n0_ := Aside0.mk (blk_below (g := gb0) (o := .cells #[.int .i64 a0_0, .int .i64 a0_1, .int .i64 a0_2, .string a0_3, .string a0_4] 23 (0, 0)) (by (with_reducible repeat (first | apply xN_ | apply xD_ | apply xA_)); exact BK0.out) hb); have n1_ := Aside0.mk (blk_below (g := gb1) (o := .cells #[.int .i64 a2_0, .int .i64 a2_1, .int .i64 a2_2, .string a2_3, .string a2_4] 23 (0, 0)) (by (with_reducible repeat (first | apply xN_ | apply xD_ | apply xA_)); exact BK1.out) hb); have n2_ := Aside0.mk (blk_below (g := gb2) (o := .cells #[.int .i64 t452, .int .i64 t453, .int .i64 t454, .string t455, .string t456] 23 (0, 0)) (by (with_reducible repeat (first | apply xN_ | apply xD_ | apply xA_)); exact BK2.out) hb); have n3_ := Aside0.mk (blk_below (g := gb3) (o := .cells #[.int .i64 t465, .int .i64 t466, .int .i64 t467, .string t468, .string t469] 23 (0, 0)) (by (with_reducible repeat (first | apply xN_ | apply xD_ | apply xA_)); exact BK3.out) hb); have n4_ := Aside0.mk (below_step (by repeat (first | (with_reducible first | exact HB.out | apply yA_ | apply yN_ | apply yD_ | refine yS_ ?_ GE0.out | refine yS_ ?_ GE1.out | refine yS_ ?_ GE2.out | refine yS_ ?_ GE3.out) | exact HB.out)) hb); clear BK0; clear BK1; clear BK2; clear BK3; clear HB; have BK0 := n0_; have BK1 := n1_; have BK2 := n2_; have BK3 := n3_; have HB := n4_; clear n0_ n1_ n2_ n3_ n4_; (try clear hb)))
                go_ret
                exact ⟨by first | rfl | (simp [errW_none, errW_some] <;> rfl) | (simp [*, errW_none, errW_some] <;> rfl), by repeat (first | (with_reducible first | exact HB.out | apply yA_ | apply yN_ | apply yD_ | refine yS_ ?_ GE0.out | refine yS_ ?_ GE1.out | refine yS_ ?_ GE2.out | refine yS_ ?_ GE3.out) | exact HB.out)⟩
               ·rw [if_neg c125] at H
                have c125b0 : decide (t474 ≤ 0) = false := decide_eq_false c125
                clear c125
                replace H := Option.bind_eq_some_iff.mp H
                obtain ⟨t476, A1380, H⟩ := H
                replace H : (if t476 ≥ 0 then ((armadalaw07_live.f kj97).bind fun t477 => (some t477)) else (some false)) = some true := H
                have A138 := Aside0.mk A1380
                clear A1380
                by_cases c139 : t476 ≥ 0
                ·rw [if_pos c139] at H
                 have c139b0 : decide (0 ≤ t476) = true := decide_eq_true c139
                 clear c139
                 replace H := Option.bind_eq_some_iff.mp H
                 obtain ⟨t477, A1400, H⟩ := H
                 replace H : (some t477) = some true := H
                 have A140 := Aside0.mk A1400
                 clear A1400
                 obtain rfl := Option.some.inj H
                 have hnb141 := NB1_0.out
                 have hnc141 := NB0_1.out
                 have hnb142 := NB1_2.out
                 have hnc142 := NB2_1.out
                 have hnb143 := NB1_3.out
                 have hnc143 := NB3_1.out
                 have uz38_0 : wc.cell? ⟨gb1, 0, none⟩ = some (.int .i64 a2_0) := (xC_ BK1.out 0).trans rfl
                 have uz38_1 : wc.cell? ⟨gb1, 1, none⟩ = some (.int .i64 a2_1) := (xC_ BK1.out 1).trans rfl
                 have uz38_2 : wc.cell? ⟨gb1, 2, none⟩ = some (.int .i64 a2_2) := (xC_ BK1.out 2).trans rfl
                 have uz38_3 : wc.cell? ⟨gb1, 3, none⟩ = some (.string a2_3) := (xC_ BK1.out 3).trans rfl
                 have uz38_4 : wc.cell? ⟨gb1, 4, none⟩ = some (.string a2_4) := (xC_ BK1.out 4).trans rfl
                 have fz38_0 := xF_ BK1.out 0
                 have fz38_1 := xF_ BK1.out 1
                 have fz38_2 := xF_ BK1.out 2
                 have fz38_3 := xF_ BK1.out 3
                 have fz38_4 := xF_ BK1.out 4
                 go_wp2_with (first | ((with_reducible refine gate_callee (f := 13) rfl ?_); refine goesL_ (some 114) rfl rfl Tryd.func13 (by kernel_rfl) rfl #[.agg #[.int .i64 a2_0, .int .i64 a2_1, .int .i64 a2_2, .string a2_3, .string a2_4]] rfl (by (try simp only [List.map_toArray, List.map_cons, List.map_nil]); first | done | rfl) ?_; (with_reducible refine (ver_Check.calls a2_0 a2_1 a2_2 a2_3 a2_4 true _ A119.out).mono ?_); rintro e w145 ⟨rfl, hb⟩; refine ⟨_, rfl, ?_⟩; have n0_ := Aside0.mk (blk_below (g := gb0) (o := .cells #[.int .i64 a0_0, .int .i64 a0_1, .int .i64 a0_2, .string a0_3, .string a0_4] 23 (0, 0)) (by (with_reducible repeat (first | apply xN_ | apply xD_ | apply xA_)); exact BK0.out) hb); have n1_ := Aside0.mk (blk_below (g := gb1) (o := .cells #[.int .i64 a2_0, .int .i64 a2_1, .int .i64 a2_2, .string a2_3, .string a2_4] 23 (0, 0)) (by (with_reducible repeat (first | apply xN_ | apply xD_ | apply xA_)); exact BK1.out) hb); have n2_ := Aside0.mk (blk_below (g := gb2) (o := .cells #[.int .i64 t452, .int .i64 t453, .int .i64 t454, .string t455, .string t456] 23 (0, 0)) (by (with_reducible repeat (first | apply xN_ | apply xD_ | apply xA_)); exact BK2.out) hb); have n3_ := Aside0.mk (blk_below (g := gb3) (o := .cells #[.int .i64 t465, .int .i64 t466, .int .i64 t467, .string t468, .string t469] 23 (0, 0)) (by (with_reducible repeat (first | apply xN_ | apply xD_ | apply xA_)); exact BK3.out) hb); have n4_ := Aside0.mk (below_step (by repeat (first | (with_reducible first | exact HB.out | apply yA_ | apply yN_ | apply yD_ | refine yS_ ?_ GE0.out | refine yS_ ?_ GE1.out | refine yS_ ?_ GE2.out | refine yS_ ?_ GE3.out) | exact HB.out)) hb); clear BK0; clear BK1; clear BK2; clear BK3; clear HB; have BK0 := n0_; have BK1 := n1_; have BK2 := n2_; have BK3 := n3_; have HB := n4_; clear n0_ n1_ n2_ n3_ n4_; (try clear hb); have uz39_0 : w145.cell? ⟨gb1, 0, none⟩ = some (.int .i64 a2_0) := (xC_ BK1.out 0).trans rfl; have uz39_1 : w145.cell? ⟨gb1, 1, none⟩ = some (.int .i64 a2_1) := (xC_ BK1.out 1).trans rfl; have uz39_2 : w145.cell? ⟨gb1, 2, none⟩ = some (.int .i64 a2_2) := (xC_ BK1.out 2).trans rfl; have uz39_3 : w145.cell? ⟨gb1, 3, none⟩ = some (.string a2_3) := (xC_ BK1.out 3).trans rfl; have uz39_4 : w145.cell? ⟨gb1, 4, none⟩ = some (.string a2_4) := (xC_ BK1.out 4).trans rfl; have fz39_0 := xF_ BK1.out 0; have fz39_1 := xF_ BK1.out 1; have fz39_2 := xF_ BK1.out 2; have fz39_3 := xF_ BK1.out 3; have fz39_4 := xF_ BK1.out 4; have hnb147 := NB0_2.out; have hnc147 := NB2_0.out; have hnb148 := NB0_3.out; have hnc148 := NB3_0.out; have uz40_0 : w145.cell? ⟨gb0, 0, none⟩ = some (.int .i64 a0_0) := (xC_ BK0.out 0).trans rfl; have uz40_1 : w145.cell? ⟨gb0, 1, none⟩ = some (.int .i64 a0_1) := (xC_ BK0.out 1).trans rfl; have uz40_2 : w145.cell? ⟨gb0, 2, none⟩ = some (.int .i64 a0_2) := (xC_ BK0.out 2).trans rfl; have uz40_3 : w145.cell? ⟨gb0, 3, none⟩ = some (.string a0_3) := (xC_ BK0.out 3).trans rfl; have uz40_4 : w145.cell? ⟨gb0, 4, none⟩ = some (.string a0_4) := (xC_ BK0.out 4).trans rfl; have fz40_0 := xF_ BK0.out 0; have fz40_1 := xF_ BK0.out 1; have fz40_2 := xF_ BK0.out 2; have fz40_3 := xF_ BK0.out 3; have fz40_4 := xF_ BK0.out 4) | (go_at_call 19; (with_reducible refine (ver_Compare.calls kj97 a2_0 a2_1 a2_2 a2_3 a2_4 a0_0 a0_1 a0_2 a0_3 a0_4 t474 _ A124.out).mono ?_); rintro e w150 ⟨rfl, hb⟩; have n0_ := Aside0.mk (blk_below (g := gb0) (o := .cells #[.int .i64 a0_0, .int .i64 a0_1, .int .i64 a0_2, .string a0_3, .string a0_4] 23 (0, 0)) (by (with_reducible repeat (first | apply xN_ | apply xD_ | apply xA_)); exact BK0.out) hb); have n1_ := Aside0.mk (blk_below (g := gb1) (o := .cells #[.int .i64 a2_0, .int .i64 a2_1, .int .i64 a2_2, .string a2_3, .string a2_4] 23 (0, 0)) (by (with_reducible repeat (first | apply xN_ | apply xD_ | apply xA_)); exact BK1.out) hb); have n2_ := Aside0.mk (blk_below (g := gb2) (o := .cells #[.int .i64 t452, .int .i64 t453, .int .i64 t454, .string t455, .string t456] 23 (0, 0)) (by (with_reducible repeat (first | apply xN_ | apply xD_ | apply xA_)); exact BK2.out) hb); have n3_ := Aside0.mk (blk_below (g := gb3) (o := .cells #[.int .i64 t465, .int .i64 t466, .int .i64 t467, .string t468, .string t469] 23 (0, 0)) (by (with_reducible repeat (first | apply xN_ | apply xD_ | apply xA_)); exact BK3.out) hb); have n4_ := Aside0.mk (below_step (by repeat (first | (with_reducible first | exact HB.out | apply yA_ | apply yN_ | apply yD_ | refine yS_ ?_ GE0.out | refine yS_ ?_ GE1.out | refine yS_ ?_ GE2.out | refine yS_ ?_ GE3.out) | exact HB.out)) hb); clear BK0; clear BK1; clear BK2; clear BK3; clear HB; have BK0 := n0_; have BK1 := n1_; have BK2 := n2_; have BK3 := n3_; have HB := n4_; clear n0_ n1_ n2_ n3_ n4_; (try clear hb); have uz41_0 : w150.cell? ⟨gb1, 0, none⟩ = some (.int .i64 a2_0) := (xC_ BK1.out 0).trans rfl; have uz41_1 : w150.cell? ⟨gb1, 1, none⟩ = some (.int .i64 a2_1) := (xC_ BK1.out 1).trans rfl; have uz41_2 : w150.cell? ⟨gb1, 2, none⟩ = some (.int .i64 a2_2) := (xC_ BK1.out 2).trans rfl; have uz41_3 : w150.cell? ⟨gb1, 3, none⟩ = some (.string a2_3) := (xC_ BK1.out 3).trans rfl; have uz41_4 : w150.cell? ⟨gb1, 4, none⟩ = some (.string a2_4) := (xC_ BK1.out 4).trans rfl; have fz41_0 := xF_ BK1.out 0; have fz41_1 := xF_ BK1.out 1; have fz41_2 := xF_ BK1.out 2; have fz41_3 := xF_ BK1.out 3; have fz41_4 := xF_ BK1.out 4; have hnb152 := NB2_3.out; have hnc152 := NB3_2.out; have uz42_0 : w150.cell? ⟨gb2, 0, none⟩ = some (.int .i64 t452) := (xC_ BK2.out 0).trans rfl; have uz42_1 : w150.cell? ⟨gb2, 1, none⟩ = some (.int .i64 t453) := (xC_ BK2.out 1).trans rfl; have uz42_2 : w150.cell? ⟨gb2, 2, none⟩ = some (.int .i64 t454) := (xC_ BK2.out 2).trans rfl; have uz42_3 : w150.cell? ⟨gb2, 3, none⟩ = some (.string t455) := (xC_ BK2.out 3).trans rfl; have uz42_4 : w150.cell? ⟨gb2, 4, none⟩ = some (.string t456) := (xC_ BK2.out 4).trans rfl; have fz42_0 := xF_ BK2.out 0; have fz42_1 := xF_ BK2.out 1; have fz42_2 := xF_ BK2.out 2; have fz42_3 := xF_ BK2.out 3; have fz42_4 := xF_ BK2.out 4) | (go_at_call 19; (with_reducible refine (ver_Compare.calls kj97 a2_0 a2_1 a2_2 a2_3 a2_4 t452 t453 t454 t455 t456 t476 _ A138.out).mono ?_); rintro e w154 ⟨rfl, hb⟩; have n0_ := Aside0.mk (blk_below (g := gb0) (o := .cells #[.int .i64 a0_0, .int .i64 a0_1, .int .i64 a0_2, .string a0_3, .string a0_4] 23 (0, 0)) (by (with_reducible repeat (first | apply xN_ | apply xD_ | apply xA_)); exact BK0.out) hb); have n1_ := Aside0.mk (blk_below (g := gb1) (o := .cells #[.int .i64 a2_0, .int .i64 a2_1, .int .i64 a2_2, .string a2_3, .string a2_4] 23 (0, 0)) (by (with_reducible repeat (first | apply xN_ | apply xD_ | apply xA_)); exact BK1.out) hb); have n2_ := Aside0.mk (blk_below (g := gb2) (o := .cells #[.int .i64 t452, .int .i64 t453, .int .i64 t454, .string t455, .string t456] 23 (0, 0)) (by (with_reducible repeat (first | apply xN_ | apply xD_ | apply xA_)); exact BK2.out) hb); have n3_ := Aside0.mk (blk_below (g := gb3) (o := .cells #[.int .i64 t465, .int .i64 t466, .int .i64 t467, .string t468, .string t469] 23 (0, 0)) (by (with_reducible repeat (first | apply xN_ | apply xD_ | apply xA_)); exact BK3.out) hb); have n4_ := Aside0.mk (below_step (by repeat (first | (with_reducible first | exact HB.out | apply yA_ | apply yN_ | apply yD_ | refine yS_ ?_ GE0.out | refine yS_ ?_ GE1.out | refine yS_ ?_ GE2.out | refine yS_ ?_ GE3.out) | exact HB.out)) hb); clear BK0; clear BK1; clear BK2; clear BK3; clear HB; have BK0 := n0_; have BK1 := n1_; have BK2 := n2_; have BK3 := n3_; have HB := n4_; clear n0_ n1_ n2_ n3_ n4_; (try clear hb)) | (go_at_call 10; (with_reducible refine (armadalaw07_live.calls kj97  true _ A140.out (LW0 := LW.out.below (by repeat (first | (with_reducible first | exact HB.out | apply yA_ | apply yN_ | apply yD_ | refine yS_ ?_ GE0.out | refine yS_ ?_ GE1.out | refine yS_ ?_ GE2.out | refine yS_ ?_ GE3.out) | exact HB.out)))).mono ?_); rintro e w155 ⟨rfl, hb⟩; have n0_ := Aside0.mk (blk_below (g := gb0) (o := .cells #[.int .i64 a0_0, .int .i64 a0_1, .int .i64 a0_2, .string a0_3, .string a0_4] 23 (0, 0)) (by (with_reducible repeat (first | apply xN_ | apply xD_ | apply xA_)); exact BK0.out) hb); have n1_ := Aside0.mk (blk_below (g := gb1) (o := .cells #[.int .i64 a2_0, .int .i64 a2_1, .int .i64 a2_2, .string a2_3, .string a2_4] 23 (0, 0)) (by (with_reducible repeat (first | apply xN_ | apply xD_ | apply xA_)); exact BK1.out) hb); have n2_ := Aside0.mk (blk_below (g := gb2) (o := .cells #[.int .i64 t452, .int .i64 t453, .int .i64 t454, .string t455, .string t456] 23 (0, 0)) (by (with_reducible repeat (first | apply xN_ | apply xD_ | apply xA_)); exact BK2.out) hb); have n3_ := Aside0.mk (blk_below (g := gb3) (o := .cells #[.int .i64 t465, .int .i64 t466, .int .i64 t467, .string t468, .string t469] 23 (0, 0)) (by (with_reducible repeat (first | apply xN_ | apply xD_ | apply xA_)); exact BK3.out) hb); have n4_ := Aside0.mk (below_step (by repeat (first | (with_reducible first | exact HB.out | apply yA_ | apply yN_ | apply yD_ | refine yS_ ?_ GE0.out | refine yS_ ?_ GE1.out | refine yS_ ?_ GE2.out | refine yS_ ?_ GE3.out) | exact HB.out)) hb); clear BK0; clear BK1; clear BK2; clear BK3; clear HB; have BK0 := n0_; have BK1 := n1_; have BK2 := n2_; have BK3 := n3_; have HB := n4_; clear n0_ n1_ n2_ n3_ n4_; (try clear hb)))
                 go_ret
                 exact ⟨by first | rfl | (simp [errW_none, errW_some] <;> rfl) | (simp [*, errW_none, errW_some] <;> rfl), by repeat (first | (with_reducible first | exact HB.out | apply yA_ | apply yN_ | apply yD_ | refine yS_ ?_ GE0.out | refine yS_ ?_ GE1.out | refine yS_ ?_ GE2.out | refine yS_ ?_ GE3.out) | exact HB.out)⟩
                ·rw [if_neg c139] at H
                 have c139b0 : decide (0 ≤ t476) = false := decide_eq_false c139
                 clear c139
                 exact absurd H (by simp)
              ·rw [if_neg c123] at H
               have c123b0 : decide (a1 < 3) = false := decide_eq_false c123
               clear c123
               by_cases c156 : a2_1 = 0
               ·rw [if_pos c156] at H
                have c156b0 : (a2_1 == 0) = true := beq_iff_eq.mpr c156
                have c156b1 : (a2_1 != 0) = false := bne_eq_false_iff_eq.mpr c156
                clear c156
                replace H := Option.bind_eq_some_iff.mp H
                obtain ⟨t478, A1570, H⟩ := H
                replace H : (if t478 ≤ 0 then ((armadalaw07_live.f kj97).bind fun t479 => (some t479)) else ((ver_Compare.f kj97 a2_0 a2_1 a2_2 a2_3 a2_4 t452 t453 t454 t455 t456).bind fun t480 => (if t480 ≥ 0 then ((armadalaw07_live.f kj97).bind fun t481 => (some t481)) else (some false)))) = some true := H
                have A157 := Aside0.mk A1570
                clear A1570
                by_cases c158 : t478 ≤ 0
                ·rw [if_pos c158] at H
                 have c158b0 : decide (t478 ≤ 0) = true := decide_eq_true c158
                 clear c158
                 replace H := Option.bind_eq_some_iff.mp H
                 obtain ⟨t479, A1590, H⟩ := H
                 replace H : (some t479) = some true := H
                 have A159 := Aside0.mk A1590
                 clear A1590
                 obtain rfl := Option.some.inj H
                 have hnb160 := NB1_0.out
                 have hnc160 := NB0_1.out
                 have hnb161 := NB1_2.out
                 have hnc161 := NB2_1.out
                 have hnb162 := NB1_3.out
                 have hnc162 := NB3_1.out
                 have uz43_0 : wc.cell? ⟨gb1, 0, none⟩ = some (.int .i64 a2_0) := (xC_ BK1.out 0).trans rfl
                 have uz43_1 : wc.cell? ⟨gb1, 1, none⟩ = some (.int .i64 a2_1) := (xC_ BK1.out 1).trans rfl
                 have uz43_2 : wc.cell? ⟨gb1, 2, none⟩ = some (.int .i64 a2_2) := (xC_ BK1.out 2).trans rfl
                 have uz43_3 : wc.cell? ⟨gb1, 3, none⟩ = some (.string a2_3) := (xC_ BK1.out 3).trans rfl
                 have uz43_4 : wc.cell? ⟨gb1, 4, none⟩ = some (.string a2_4) := (xC_ BK1.out 4).trans rfl
                 have fz43_0 := xF_ BK1.out 0
                 have fz43_1 := xF_ BK1.out 1
                 have fz43_2 := xF_ BK1.out 2
                 have fz43_3 := xF_ BK1.out 3
                 have fz43_4 := xF_ BK1.out 4
                 go_wp2_with (first | ((with_reducible refine gate_callee (f := 13) rfl ?_); refine goesL_ (some 114) rfl rfl Tryd.func13 (by kernel_rfl) rfl #[.agg #[.int .i64 a2_0, .int .i64 a2_1, .int .i64 a2_2, .string a2_3, .string a2_4]] rfl (by (try simp only [List.map_toArray, List.map_cons, List.map_nil]); first | done | rfl) ?_; (with_reducible refine (ver_Check.calls a2_0 a2_1 a2_2 a2_3 a2_4 true _ A119.out).mono ?_); rintro e w164 ⟨rfl, hb⟩; refine ⟨_, rfl, ?_⟩; have n0_ := Aside0.mk (blk_below (g := gb0) (o := .cells #[.int .i64 a0_0, .int .i64 a0_1, .int .i64 a0_2, .string a0_3, .string a0_4] 23 (0, 0)) (by (with_reducible repeat (first | apply xN_ | apply xD_ | apply xA_)); exact BK0.out) hb); have n1_ := Aside0.mk (blk_below (g := gb1) (o := .cells #[.int .i64 a2_0, .int .i64 a2_1, .int .i64 a2_2, .string a2_3, .string a2_4] 23 (0, 0)) (by (with_reducible repeat (first | apply xN_ | apply xD_ | apply xA_)); exact BK1.out) hb); have n2_ := Aside0.mk (blk_below (g := gb2) (o := .cells #[.int .i64 t452, .int .i64 t453, .int .i64 t454, .string t455, .string t456] 23 (0, 0)) (by (with_reducible repeat (first | apply xN_ | apply xD_ | apply xA_)); exact BK2.out) hb); have n3_ := Aside0.mk (blk_below (g := gb3) (o := .cells #[.int .i64 t465, .int .i64 t466, .int .i64 t467, .string t468, .string t469] 23 (0, 0)) (by (with_reducible repeat (first | apply xN_ | apply xD_ | apply xA_)); exact BK3.out) hb); have n4_ := Aside0.mk (below_step (by repeat (first | (with_reducible first | exact HB.out | apply yA_ | apply yN_ | apply yD_ | refine yS_ ?_ GE0.out | refine yS_ ?_ GE1.out | refine yS_ ?_ GE2.out | refine yS_ ?_ GE3.out) | exact HB.out)) hb); clear BK0; clear BK1; clear BK2; clear BK3; clear HB; have BK0 := n0_; have BK1 := n1_; have BK2 := n2_; have BK3 := n3_; have HB := n4_; clear n0_ n1_ n2_ n3_ n4_; (try clear hb); have uz44_0 : w164.cell? ⟨gb1, 0, none⟩ = some (.int .i64 a2_0) := (xC_ BK1.out 0).trans rfl; have uz44_1 : w164.cell? ⟨gb1, 1, none⟩ = some (.int .i64 a2_1) := (xC_ BK1.out 1).trans rfl; have uz44_2 : w164.cell? ⟨gb1, 2, none⟩ = some (.int .i64 a2_2) := (xC_ BK1.out 2).trans rfl; have uz44_3 : w164.cell? ⟨gb1, 3, none⟩ = some (.string a2_3) := (xC_ BK1.out 3).trans rfl; have uz44_4 : w164.cell? ⟨gb1, 4, none⟩ = some (.string a2_4) := (xC_ BK1.out 4).trans rfl; have fz44_0 := xF_ BK1.out 0; have fz44_1 := xF_ BK1.out 1; have fz44_2 := xF_ BK1.out 2; have fz44_3 := xF_ BK1.out 3; have fz44_4 := xF_ BK1.out 4; have hnb166 := NB0_2.out; have hnc166 := NB2_0.out; have hnb167 := NB0_3.out; have hnc167 := NB3_0.out; have uz45_0 : w164.cell? ⟨gb0, 0, none⟩ = some (.int .i64 a0_0) := (xC_ BK0.out 0).trans rfl; have uz45_1 : w164.cell? ⟨gb0, 1, none⟩ = some (.int .i64 a0_1) := (xC_ BK0.out 1).trans rfl; have uz45_2 : w164.cell? ⟨gb0, 2, none⟩ = some (.int .i64 a0_2) := (xC_ BK0.out 2).trans rfl; have uz45_3 : w164.cell? ⟨gb0, 3, none⟩ = some (.string a0_3) := (xC_ BK0.out 3).trans rfl; have uz45_4 : w164.cell? ⟨gb0, 4, none⟩ = some (.string a0_4) := (xC_ BK0.out 4).trans rfl; have fz45_0 := xF_ BK0.out 0; have fz45_1 := xF_ BK0.out 1; have fz45_2 := xF_ BK0.out 2; have fz45_3 := xF_ BK0.out 3; have fz45_4 := xF_ BK0.out 4) | (go_at_call 19; (with_reducible refine (ver_Compare.calls kj97 a2_0 a2_1 a2_2 a2_3 a2_4 a0_0 a0_1 a0_2 a0_3 a0_4 t478 _ A157.out).mono ?_); rintro e w169 ⟨rfl, hb⟩; have n0_ := Aside0.mk (blk_below (g := gb0) (o := .cells #[.int .i64 a0_0, .int .i64 a0_1, .int .i64 a0_2, .string a0_3, .string a0_4] 23 (0, 0)) (by (with_reducible repeat (first | apply xN_ | apply xD_ | apply xA_)); exact BK0.out) hb); have n1_ := Aside0.mk (blk_below (g := gb1) (o := .cells #[.int .i64 a2_0, .int .i64 a2_1, .int .i64 a2_2, .string a2_3, .string a2_4] 23 (0, 0)) (by (with_reducible repeat (first | apply xN_ | apply xD_ | apply xA_)); exact BK1.out) hb); have n2_ := Aside0.mk (blk_below (g := gb2) (o := .cells #[.int .i64 t452, .int .i64 t453, .int .i64 t454, .string t455, .string t456] 23 (0, 0)) (by (with_reducible repeat (first | apply xN_ | apply xD_ | apply xA_)); exact BK2.out) hb); have n3_ := Aside0.mk (blk_below (g := gb3) (o := .cells #[.int .i64 t465, .int .i64 t466, .int .i64 t467, .string t468, .string t469] 23 (0, 0)) (by (with_reducible repeat (first | apply xN_ | apply xD_ | apply xA_)); exact BK3.out) hb); have n4_ := Aside0.mk (below_step (by repeat (first | (with_reducible first | exact HB.out | apply yA_ | apply yN_ | apply yD_ | refine yS_ ?_ GE0.out | refine yS_ ?_ GE1.out | refine yS_ ?_ GE2.out | refine yS_ ?_ GE3.out) | exact HB.out)) hb); clear BK0; clear BK1; clear BK2; clear BK3; clear HB; have BK0 := n0_; have BK1 := n1_; have BK2 := n2_; have BK3 := n3_; have HB := n4_; clear n0_ n1_ n2_ n3_ n4_; (try clear hb)) | (go_at_call 10; (with_reducible refine (armadalaw07_live.calls kj97  true _ A159.out (LW0 := LW.out.below (by repeat (first | (with_reducible first | exact HB.out | apply yA_ | apply yN_ | apply yD_ | refine yS_ ?_ GE0.out | refine yS_ ?_ GE1.out | refine yS_ ?_ GE2.out | refine yS_ ?_ GE3.out) | exact HB.out)))).mono ?_); rintro e w170 ⟨rfl, hb⟩; have n0_ := Aside0.mk (blk_below (g := gb0) (o := .cells #[.int .i64 a0_0, .int .i64 a0_1, .int .i64 a0_2, .string a0_3, .string a0_4] 23 (0, 0)) (by (with_reducible repeat (first | apply xN_ | apply xD_ | apply xA_)); exact BK0.out) hb); have n1_ := Aside0.mk (blk_below (g := gb1) (o := .cells #[.int .i64 a2_0, .int .i64 a2_1, .int .i64 a2_2, .string a2_3, .string a2_4] 23 (0, 0)) (by (with_reducible repeat (first | apply xN_ | apply xD_ | apply xA_)); exact BK1.out) hb); have n2_ := Aside0.mk (blk_below (g := gb2) (o := .cells #[.int .i64 t452, .int .i64 t453, .int .i64 t454, .string t455, .string t456] 23 (0, 0)) (by (with_reducible repeat (first | apply xN_ | apply xD_ | apply xA_)); exact BK2.out) hb); have n3_ := Aside0.mk (blk_below (g := gb3) (o := .cells #[.int .i64 t465, .int .i64 t466, .int .i64 t467, .string t468, .string t469] 23 (0, 0)) (by (with_reducible repeat (first | apply xN_ | apply xD_ | apply xA_)); exact BK3.out) hb); have n4_ := Aside0.mk (below_step (by repeat (first | (with_reducible first | exact HB.out | apply yA_ | apply yN_ | apply yD_ | refine yS_ ?_ GE0.out | refine yS_ ?_ GE1.out | refine yS_ ?_ GE2.out | refine yS_ ?_ GE3.out) | exact HB.out)) hb); clear BK0; clear BK1; clear BK2; clear BK3; clear HB; have BK0 := n0_; have BK1 := n1_; have BK2 := n2_; have BK3 := n3_; have HB := n4_; clear n0_ n1_ n2_ n3_ n4_; (try clear hb)))
                 go_ret
                 exact ⟨by first | rfl | (simp [errW_none, errW_some] <;> rfl) | (simp [*, errW_none, errW_some] <;> rfl), by repeat (first | (with_reducible first | exact HB.out | apply yA_ | apply yN_ | apply yD_ | refine yS_ ?_ GE0.out | refine yS_ ?_ GE1.out | refine yS_ ?_ GE2.out | refine yS_ ?_ GE3.out) | exact HB.out)⟩
                ·rw [if_neg c158] at H
                 have c158b0 : decide (t478 ≤ 0) = false := decide_eq_false c158
                 clear c158
                 replace H := Option.bind_eq_some_iff.mp H
                 obtain ⟨t480, A1710, H⟩ := H
                 replace H : (if t480 ≥ 0 then ((armadalaw07_live.f kj97).bind fun t481 => (some t481)) else (some false)) = some true := H
                 have A171 := Aside0.mk A1710
                 clear A1710
                 by_cases c172 : t480 ≥ 0
                 ·rw [if_pos c172] at H
                  have c172b0 : decide (0 ≤ t480) = true := decide_eq_true c172
                  clear c172
                  replace H := Option.bind_eq_some_iff.mp H
                  obtain ⟨t481, A1730, H⟩ := H
                  replace H : (some t481) = some true := H
                  have A173 := Aside0.mk A1730
                  clear A1730
                  obtain rfl := Option.some.inj H
                  have hnb174 := NB1_0.out
                  have hnc174 := NB0_1.out
                  have hnb175 := NB1_2.out
                  have hnc175 := NB2_1.out
                  have hnb176 := NB1_3.out
                  have hnc176 := NB3_1.out
                  have uz46_0 : wc.cell? ⟨gb1, 0, none⟩ = some (.int .i64 a2_0) := (xC_ BK1.out 0).trans rfl
                  have uz46_1 : wc.cell? ⟨gb1, 1, none⟩ = some (.int .i64 a2_1) := (xC_ BK1.out 1).trans rfl
                  have uz46_2 : wc.cell? ⟨gb1, 2, none⟩ = some (.int .i64 a2_2) := (xC_ BK1.out 2).trans rfl
                  have uz46_3 : wc.cell? ⟨gb1, 3, none⟩ = some (.string a2_3) := (xC_ BK1.out 3).trans rfl
                  have uz46_4 : wc.cell? ⟨gb1, 4, none⟩ = some (.string a2_4) := (xC_ BK1.out 4).trans rfl
                  have fz46_0 := xF_ BK1.out 0
                  have fz46_1 := xF_ BK1.out 1
                  have fz46_2 := xF_ BK1.out 2
                  have fz46_3 := xF_ BK1.out 3
                  have fz46_4 := xF_ BK1.out 4
                  go_wp2_with (first | ((with_reducible refine gate_callee (f := 13) rfl ?_); refine goesL_ (some 114) rfl rfl Tryd.func13 (by kernel_rfl) rfl #[.agg #[.int .i64 a2_0, .int .i64 a2_1, .int .i64 a2_2, .string a2_3, .string a2_4]] rfl (by (try simp only [List.map_toArray, List.map_cons, List.map_nil]); first | done | rfl) ?_; (with_reducible refine (ver_Check.calls a2_0 a2_1 a2_2 a2_3 a2_4 true _ A119.out).mono ?_); rintro e w178 ⟨rfl, hb⟩; refine ⟨_, rfl, ?_⟩; have n0_ := Aside0.mk (blk_below (g := gb0) (o := .cells #[.int .i64 a0_0, .int .i64 a0_1, .int .i64 a0_2, .string a0_3, .string a0_4] 23 (0, 0)) (by (with_reducible repeat (first | apply xN_ | apply xD_ | apply xA_)); exact BK0.out) hb); have n1_ := Aside0.mk (blk_below (g := gb1) (o := .cells #[.int .i64 a2_0, .int .i64 a2_1, .int .i64 a2_2, .string a2_3, .string a2_4] 23 (0, 0)) (by (with_reducible repeat (first | apply xN_ | apply xD_ | apply xA_)); exact BK1.out) hb); have n2_ := Aside0.mk (blk_below (g := gb2) (o := .cells #[.int .i64 t452, .int .i64 t453, .int .i64 t454, .string t455, .string t456] 23 (0, 0)) (by (with_reducible repeat (first | apply xN_ | apply xD_ | apply xA_)); exact BK2.out) hb); have n3_ := Aside0.mk (blk_below (g := gb3) (o := .cells #[.int .i64 t465, .int .i64 t466, .int .i64 t467, .string t468, .string t469] 23 (0, 0)) (by (with_reducible repeat (first | apply xN_ | apply xD_ | apply xA_)); exact BK3.out) hb); have n4_ := Aside0.mk (below_step (by repeat (first | (with_reducible first | exact HB.out | apply yA_ | apply yN_ | apply yD_ | refine yS_ ?_ GE0.out | refine yS_ ?_ GE1.out | refine yS_ ?_ GE2.out | refine yS_ ?_ GE3.out) | exact HB.out)) hb); clear BK0; clear BK1; clear BK2; clear BK3; clear HB; have BK0 := n0_; have BK1 := n1_; have BK2 := n2_; have BK3 := n3_; have HB := n4_; clear n0_ n1_ n2_ n3_ n4_; (try clear hb); have uz47_0 : w178.cell? ⟨gb1, 0, none⟩ = some (.int .i64 a2_0) := (xC_ BK1.out 0).trans rfl; have uz47_1 : w178.cell? ⟨gb1, 1, none⟩ = some (.int .i64 a2_1) := (xC_ BK1.out 1).trans rfl; have uz47_2 : w178.cell? ⟨gb1, 2, none⟩ = some (.int .i64 a2_2) := (xC_ BK1.out 2).trans rfl; have uz47_3 : w178.cell? ⟨gb1, 3, none⟩ = some (.string a2_3) := (xC_ BK1.out 3).trans rfl; have uz47_4 : w178.cell? ⟨gb1, 4, none⟩ = some (.string a2_4) := (xC_ BK1.out 4).trans rfl; have fz47_0 := xF_ BK1.out 0; have fz47_1 := xF_ BK1.out 1; have fz47_2 := xF_ BK1.out 2; have fz47_3 := xF_ BK1.out 3; have fz47_4 := xF_ BK1.out 4; have hnb180 := NB0_2.out; have hnc180 := NB2_0.out; have hnb181 := NB0_3.out; have hnc181 := NB3_0.out; have uz48_0 : w178.cell? ⟨gb0, 0, none⟩ = some (.int .i64 a0_0) := (xC_ BK0.out 0).trans rfl; have uz48_1 : w178.cell? ⟨gb0, 1, none⟩ = some (.int .i64 a0_1) := (xC_ BK0.out 1).trans rfl; have uz48_2 : w178.cell? ⟨gb0, 2, none⟩ = some (.int .i64 a0_2) := (xC_ BK0.out 2).trans rfl; have uz48_3 : w178.cell? ⟨gb0, 3, none⟩ = some (.string a0_3) := (xC_ BK0.out 3).trans rfl; have uz48_4 : w178.cell? ⟨gb0, 4, none⟩ = some (.string a0_4) := (xC_ BK0.out 4).trans rfl; have fz48_0 := xF_ BK0.out 0; have fz48_1 := xF_ BK0.out 1; have fz48_2 := xF_ BK0.out 2; have fz48_3 := xF_ BK0.out 3; have fz48_4 := xF_ BK0.out 4) | (go_at_call 19; (with_reducible refine (ver_Compare.calls kj97 a2_0 a2_1 a2_2 a2_3 a2_4 a0_0 a0_1 a0_2 a0_3 a0_4 t478 _ A157.out).mono ?_); rintro e w183 ⟨rfl, hb⟩; have n0_ := Aside0.mk (blk_below (g := gb0) (o := .cells #[.int .i64 a0_0, .int .i64 a0_1, .int .i64 a0_2, .string a0_3, .string a0_4] 23 (0, 0)) (by (with_reducible repeat (first | apply xN_ | apply xD_ | apply xA_)); exact BK0.out) hb); have n1_ := Aside0.mk (blk_below (g := gb1) (o := .cells #[.int .i64 a2_0, .int .i64 a2_1, .int .i64 a2_2, .string a2_3, .string a2_4] 23 (0, 0)) (by (with_reducible repeat (first | apply xN_ | apply xD_ | apply xA_)); exact BK1.out) hb); have n2_ := Aside0.mk (blk_below (g := gb2) (o := .cells #[.int .i64 t452, .int .i64 t453, .int .i64 t454, .string t455, .string t456] 23 (0, 0)) (by (with_reducible repeat (first | apply xN_ | apply xD_ | apply xA_)); exact BK2.out) hb); have n3_ := Aside0.mk (blk_below (g := gb3) (o := .cells #[.int .i64 t465, .int .i64 t466, .int .i64 t467, .string t468, .string t469] 23 (0, 0)) (by (with_reducible repeat (first | apply xN_ | apply xD_ | apply xA_)); exact BK3.out) hb); have n4_ := Aside0.mk (below_step (by repeat (first | (with_reducible first | exact HB.out | apply yA_ | apply yN_ | apply yD_ | refine yS_ ?_ GE0.out | refine yS_ ?_ GE1.out | refine yS_ ?_ GE2.out | refine yS_ ?_ GE3.out) | exact HB.out)) hb); clear BK0; clear BK1; clear BK2; clear BK3; clear HB; have BK0 := n0_; have BK1 := n1_; have BK2 := n2_; have BK3 := n3_; have HB := n4_; clear n0_ n1_ n2_ n3_ n4_; (try clear hb); have uz49_0 : w183.cell? ⟨gb1, 0, none⟩ = some (.int .i64 a2_0) := (xC_ BK1.out 0).trans rfl; have uz49_1 : w183.cell? ⟨gb1, 1, none⟩ = some (.int .i64 a2_1) := (xC_ BK1.out 1).trans rfl; have uz49_2 : w183.cell? ⟨gb1, 2, none⟩ = some (.int .i64 a2_2) := (xC_ BK1.out 2).trans rfl; have uz49_3 : w183.cell? ⟨gb1, 3, none⟩ = some (.string a2_3) := (xC_ BK1.out 3).trans rfl; have uz49_4 : w183.cell? ⟨gb1, 4, none⟩ = some (.string a2_4) := (xC_ BK1.out 4).trans rfl; have fz49_0 := xF_ BK1.out 0; have fz49_1 := xF_ BK1.out 1; have fz49_2 := xF_ BK1.out 2; have fz49_3 := xF_ BK1.out 3; have fz49_4 := xF_ BK1.out 4; have hnb185 := NB2_3.out; have hnc185 := NB3_2.out; have uz50_0 : w183.cell? ⟨gb2, 0, none⟩ = some (.int .i64 t452) := (xC_ BK2.out 0).trans rfl; have uz50_1 : w183.cell? ⟨gb2, 1, none⟩ = some (.int .i64 t453) := (xC_ BK2.out 1).trans rfl; have uz50_2 : w183.cell? ⟨gb2, 2, none⟩ = some (.int .i64 t454) := (xC_ BK2.out 2).trans rfl; have uz50_3 : w183.cell? ⟨gb2, 3, none⟩ = some (.string t455) := (xC_ BK2.out 3).trans rfl; have uz50_4 : w183.cell? ⟨gb2, 4, none⟩ = some (.string t456) := (xC_ BK2.out 4).trans rfl; have fz50_0 := xF_ BK2.out 0; have fz50_1 := xF_ BK2.out 1; have fz50_2 := xF_ BK2.out 2; have fz50_3 := xF_ BK2.out 3; have fz50_4 := xF_ BK2.out 4) | (go_at_call 19; (with_reducible refine (ver_Compare.calls kj97 a2_0 a2_1 a2_2 a2_3 a2_4 t452 t453 t454 t455 t456 t480 _ A171.out).mono ?_); rintro e w187 ⟨rfl, hb⟩; have n0_ := Aside0.mk (blk_below (g := gb0) (o := .cells #[.int .i64 a0_0, .int .i64 a0_1, .int .i64 a0_2, .string a0_3, .string a0_4] 23 (0, 0)) (by (with_reducible repeat (first | apply xN_ | apply xD_ | apply xA_)); exact BK0.out) hb); have n1_ := Aside0.mk (blk_below (g := gb1) (o := .cells #[.int .i64 a2_0, .int .i64 a2_1, .int .i64 a2_2, .string a2_3, .string a2_4] 23 (0, 0)) (by (with_reducible repeat (first | apply xN_ | apply xD_ | apply xA_)); exact BK1.out) hb); have n2_ := Aside0.mk (blk_below (g := gb2) (o := .cells #[.int .i64 t452, .int .i64 t453, .int .i64 t454, .string t455, .string t456] 23 (0, 0)) (by (with_reducible repeat (first | apply xN_ | apply xD_ | apply xA_)); exact BK2.out) hb); have n3_ := Aside0.mk (blk_below (g := gb3) (o := .cells #[.int .i64 t465, .int .i64 t466, .int .i64 t467, .string t468, .string t469] 23 (0, 0)) (by (with_reducible repeat (first | apply xN_ | apply xD_ | apply xA_)); exact BK3.out) hb); have n4_ := Aside0.mk (below_step (by repeat (first | (with_reducible first | exact HB.out | apply yA_ | apply yN_ | apply yD_ | refine yS_ ?_ GE0.out | refine yS_ ?_ GE1.out | refine yS_ ?_ GE2.out | refine yS_ ?_ GE3.out) | exact HB.out)) hb); clear BK0; clear BK1; clear BK2; clear BK3; clear HB; have BK0 := n0_; have BK1 := n1_; have BK2 := n2_; have BK3 := n3_; have HB := n4_; clear n0_ n1_ n2_ n3_ n4_; (try clear hb)) | (go_at_call 10; (with_reducible refine (armadalaw07_live.calls kj97  true _ A173.out (LW0 := LW.out.below (by repeat (first | (with_reducible first | exact HB.out | apply yA_ | apply yN_ | apply yD_ | refine yS_ ?_ GE0.out | refine yS_ ?_ GE1.out | refine yS_ ?_ GE2.out | refine yS_ ?_ GE3.out) | exact HB.out)))).mono ?_); rintro e w188 ⟨rfl, hb⟩; have n0_ := Aside0.mk (blk_below (g := gb0) (o := .cells #[.int .i64 a0_0, .int .i64 a0_1, .int .i64 a0_2, .string a0_3, .string a0_4] 23 (0, 0)) (by (with_reducible repeat (first | apply xN_ | apply xD_ | apply xA_)); exact BK0.out) hb); have n1_ := Aside0.mk (blk_below (g := gb1) (o := .cells #[.int .i64 a2_0, .int .i64 a2_1, .int .i64 a2_2, .string a2_3, .string a2_4] 23 (0, 0)) (by (with_reducible repeat (first | apply xN_ | apply xD_ | apply xA_)); exact BK1.out) hb); have n2_ := Aside0.mk (blk_below (g := gb2) (o := .cells #[.int .i64 t452, .int .i64 t453, .int .i64 t454, .string t455, .string t456] 23 (0, 0)) (by (with_reducible repeat (first | apply xN_ | apply xD_ | apply xA_)); exact BK2.out) hb); have n3_ := Aside0.mk (blk_below (g := gb3) (o := .cells #[.int .i64 t465, .int .i64 t466, .int .i64 t467, .string t468, .string t469] 23 (0, 0)) (by (with_reducible repeat (first | apply xN_ | apply xD_ | apply xA_)); exact BK3.out) hb); have n4_ := Aside0.mk (below_step (by repeat (first | (with_reducible first | exact HB.out | apply yA_ | apply yN_ | apply yD_ | refine yS_ ?_ GE0.out | refine yS_ ?_ GE1.out | refine yS_ ?_ GE2.out | refine yS_ ?_ GE3.out) | exact HB.out)) hb); clear BK0; clear BK1; clear BK2; clear BK3; clear HB; have BK0 := n0_; have BK1 := n1_; have BK2 := n2_; have BK3 := n3_; have HB := n4_; clear n0_ n1_ n2_ n3_ n4_; (try clear hb)))
                  go_ret
                  exact ⟨by first | rfl | (simp [errW_none, errW_some] <;> rfl) | (simp [*, errW_none, errW_some] <;> rfl), by repeat (first | (with_reducible first | exact HB.out | apply yA_ | apply yN_ | apply yD_ | refine yS_ ?_ GE0.out | refine yS_ ?_ GE1.out | refine yS_ ?_ GE2.out | refine yS_ ?_ GE3.out) | exact HB.out)⟩
                 ·rw [if_neg c172] at H
                  have c172b0 : decide (0 ≤ t480) = false := decide_eq_false c172
                  clear c172
                  exact absurd H (by simp)
               ·rw [if_neg c156] at H
                have c156b0 : (a2_1 == 0) = false := beq_eq_false_iff_ne.mpr c156
                have c156b1 : (a2_1 != 0) = true := bne_iff_ne.mpr c156
                replace H := Option.bind_eq_some_iff.mp H
                obtain ⟨t482, A1890, H⟩ := H
                replace H : (some t482) = some true := H
                have A189 := Aside0.mk A1890
                clear A1890
                obtain rfl := Option.some.inj H
                have hnb190 := NB1_0.out
                have hnc190 := NB0_1.out
                have hnb191 := NB1_2.out
                have hnc191 := NB2_1.out
                have hnb192 := NB1_3.out
                have hnc192 := NB3_1.out
                have uz51_0 : wc.cell? ⟨gb1, 0, none⟩ = some (.int .i64 a2_0) := (xC_ BK1.out 0).trans rfl
                have uz51_1 : wc.cell? ⟨gb1, 1, none⟩ = some (.int .i64 a2_1) := (xC_ BK1.out 1).trans rfl
                have uz51_2 : wc.cell? ⟨gb1, 2, none⟩ = some (.int .i64 a2_2) := (xC_ BK1.out 2).trans rfl
                have uz51_3 : wc.cell? ⟨gb1, 3, none⟩ = some (.string a2_3) := (xC_ BK1.out 3).trans rfl
                have uz51_4 : wc.cell? ⟨gb1, 4, none⟩ = some (.string a2_4) := (xC_ BK1.out 4).trans rfl
                have fz51_0 := xF_ BK1.out 0
                have fz51_1 := xF_ BK1.out 1
                have fz51_2 := xF_ BK1.out 2
                have fz51_3 := xF_ BK1.out 3
                have fz51_4 := xF_ BK1.out 4
                go_wp2_with (first | ((with_reducible refine gate_callee (f := 13) rfl ?_); refine goesL_ (some 114) rfl rfl Tryd.func13 (by kernel_rfl) rfl #[.agg #[.int .i64 a2_0, .int .i64 a2_1, .int .i64 a2_2, .string a2_3, .string a2_4]] rfl (by (try simp only [List.map_toArray, List.map_cons, List.map_nil]); first | done | rfl) ?_; (with_reducible refine (ver_Check.calls a2_0 a2_1 a2_2 a2_3 a2_4 true _ A119.out).mono ?_); rintro e w194 ⟨rfl, hb⟩; refine ⟨_, rfl, ?_⟩; have n0_ := Aside0.mk (blk_below (g := gb0) (o := .cells #[.int .i64 a0_0, .int .i64 a0_1, .int .i64 a0_2, .string a0_3, .string a0_4] 23 (0, 0)) (by (with_reducible repeat (first | apply xN_ | apply xD_ | apply xA_)); exact BK0.out) hb); have n1_ := Aside0.mk (blk_below (g := gb1) (o := .cells #[.int .i64 a2_0, .int .i64 a2_1, .int .i64 a2_2, .string a2_3, .string a2_4] 23 (0, 0)) (by (with_reducible repeat (first | apply xN_ | apply xD_ | apply xA_)); exact BK1.out) hb); have n2_ := Aside0.mk (blk_below (g := gb2) (o := .cells #[.int .i64 t452, .int .i64 t453, .int .i64 t454, .string t455, .string t456] 23 (0, 0)) (by (with_reducible repeat (first | apply xN_ | apply xD_ | apply xA_)); exact BK2.out) hb); have n3_ := Aside0.mk (blk_below (g := gb3) (o := .cells #[.int .i64 t465, .int .i64 t466, .int .i64 t467, .string t468, .string t469] 23 (0, 0)) (by (with_reducible repeat (first | apply xN_ | apply xD_ | apply xA_)); exact BK3.out) hb); have n4_ := Aside0.mk (below_step (by repeat (first | (with_reducible first | exact HB.out | apply yA_ | apply yN_ | apply yD_ | refine yS_ ?_ GE0.out | refine yS_ ?_ GE1.out | refine yS_ ?_ GE2.out | refine yS_ ?_ GE3.out) | exact HB.out)) hb); clear BK0; clear BK1; clear BK2; clear BK3; clear HB; have BK0 := n0_; have BK1 := n1_; have BK2 := n2_; have BK3 := n3_; have HB := n4_; clear n0_ n1_ n2_ n3_ n4_; (try clear hb); have uz52_0 : w194.cell? ⟨gb1, 0, none⟩ = some (.int .i64 a2_0) := (xC_ BK1.out 0).trans rfl; have uz52_1 : w194.cell? ⟨gb1, 1, none⟩ = some (.int .i64 a2_1) := (xC_ BK1.out 1).trans rfl; have uz52_2 : w194.cell? ⟨gb1, 2, none⟩ = some (.int .i64 a2_2) := (xC_ BK1.out 2).trans rfl; have uz52_3 : w194.cell? ⟨gb1, 3, none⟩ = some (.string a2_3) := (xC_ BK1.out 3).trans rfl; have uz52_4 : w194.cell? ⟨gb1, 4, none⟩ = some (.string a2_4) := (xC_ BK1.out 4).trans rfl; have fz52_0 := xF_ BK1.out 0; have fz52_1 := xF_ BK1.out 1; have fz52_2 := xF_ BK1.out 2; have fz52_3 := xF_ BK1.out 3; have fz52_4 := xF_ BK1.out 4) | (go_at_call 10; (with_reducible refine (armadalaw07_live.calls kj97  true _ A189.out (LW0 := LW.out.below (by repeat (first | (with_reducible first | exact HB.out | apply yA_ | apply yN_ | apply yD_ | refine yS_ ?_ GE0.out | refine yS_ ?_ GE1.out | refine yS_ ?_ GE2.out | refine yS_ ?_ GE3.out) | exact HB.out)))).mono ?_); rintro e w196 ⟨rfl, hb⟩; have n0_ := Aside0.mk (blk_below (g := gb0) (o := .cells #[.int .i64 a0_0, .int .i64 a0_1, .int .i64 a0_2, .string a0_3, .string a0_4] 23 (0, 0)) (by (with_reducible repeat (first | apply xN_ | apply xD_ | apply xA_)); exact BK0.out) hb); have n1_ := Aside0.mk (blk_below (g := gb1) (o := .cells #[.int .i64 a2_0, .int .i64 a2_1, .int .i64 a2_2, .string a2_3, .string a2_4] 23 (0, 0)) (by (with_reducible repeat (first | apply xN_ | apply xD_ | apply xA_)); exact BK1.out) hb); have n2_ := Aside0.mk (blk_below (g := gb2) (o := .cells #[.int .i64 t452, .int .i64 t453, .int .i64 t454, .string t455, .string t456] 23 (0, 0)) (by (with_reducible repeat (first | apply xN_ | apply xD_ | apply xA_)); exact BK2.out) hb); have n3_ := Aside0.mk (blk_below (g := gb3) (o := .cells #[.int .i64 t465, .int .i64 t466, .int .i64 t467, .string t468, .string t469] 23 (0, 0)) (by (with_reducible repeat (first | apply xN_ | apply xD_ | apply xA_)); exact BK3.out) hb); have n4_ := Aside0.mk (below_step (by repeat (first | (with_reducible first | exact HB.out | apply yA_ | apply yN_ | apply yD_ | refine yS_ ?_ GE0.out | refine yS_ ?_ GE1.out | refine yS_ ?_ GE2.out | refine yS_ ?_ GE3.out) | exact HB.out)) hb); clear BK0; clear BK1; clear BK2; clear BK3; clear HB; have BK0 := n0_; have BK1 := n1_; have BK2 := n2_; have BK3 := n3_; have HB := n4_; clear n0_ n1_ n2_ n3_ n4_; (try clear hb)))
                go_ret
                exact ⟨by first | rfl | (simp [errW_none, errW_some] <;> rfl) | (simp [*, errW_none, errW_some] <;> rfl), by repeat (first | (with_reducible first | exact HB.out | apply yA_ | apply yN_ | apply yD_ | refine yS_ ?_ GE0.out | refine yS_ ?_ GE1.out | refine yS_ ?_ GE2.out | refine yS_ ?_ GE3.out) | exact HB.out)⟩
             ·rw [if_neg c122] at H
              have c122b0 : decide (a1 < 2) = false := decide_eq_false c122
              clear c122
              by_cases c197 : a2_2 = 0
              ·rw [if_pos c197] at H
               have c197b0 : (a2_2 == 0) = true := beq_iff_eq.mpr c197
               have c197b1 : (a2_2 != 0) = false := bne_eq_false_iff_eq.mpr c197
               clear c197
               by_cases c198 : a1 < 3
               ·rw [if_pos c198] at H
                have c198b0 : decide (a1 < 3) = true := decide_eq_true c198
                clear c198
                replace H := Option.bind_eq_some_iff.mp H
                obtain ⟨t483, A1990, H⟩ := H
                replace H : (if t483 ≤ 0 then ((armadalaw07_live.f kj97).bind fun t484 => (some t484)) else ((ver_Compare.f kj97 a2_0 a2_1 a2_2 a2_3 a2_4 t452 t453 t454 t455 t456).bind fun t485 => (if t485 ≥ 0 then ((armadalaw07_live.f kj97).bind fun t486 => (some t486)) else (some false)))) = some true := H
                have A199 := Aside0.mk A1990
                clear A1990
                by_cases c200 : t483 ≤ 0
                ·rw [if_pos c200] at H
                 have c200b0 : decide (t483 ≤ 0) = true := decide_eq_true c200
                 clear c200
                 replace H := Option.bind_eq_some_iff.mp H
                 obtain ⟨t484, A2010, H⟩ := H
                 replace H : (some t484) = some true := H
                 have A201 := Aside0.mk A2010
                 clear A2010
                 obtain rfl := Option.some.inj H
                 have hnb202 := NB1_0.out
                 have hnc202 := NB0_1.out
                 have hnb203 := NB1_2.out
                 have hnc203 := NB2_1.out
                 have hnb204 := NB1_3.out
                 have hnc204 := NB3_1.out
                 have uz53_0 : wc.cell? ⟨gb1, 0, none⟩ = some (.int .i64 a2_0) := (xC_ BK1.out 0).trans rfl
                 have uz53_1 : wc.cell? ⟨gb1, 1, none⟩ = some (.int .i64 a2_1) := (xC_ BK1.out 1).trans rfl
                 have uz53_2 : wc.cell? ⟨gb1, 2, none⟩ = some (.int .i64 a2_2) := (xC_ BK1.out 2).trans rfl
                 have uz53_3 : wc.cell? ⟨gb1, 3, none⟩ = some (.string a2_3) := (xC_ BK1.out 3).trans rfl
                 have uz53_4 : wc.cell? ⟨gb1, 4, none⟩ = some (.string a2_4) := (xC_ BK1.out 4).trans rfl
                 have fz53_0 := xF_ BK1.out 0
                 have fz53_1 := xF_ BK1.out 1
                 have fz53_2 := xF_ BK1.out 2
                 have fz53_3 := xF_ BK1.out 3
                 have fz53_4 := xF_ BK1.out 4
                 go_wp2_with (first | ((with_reducible refine gate_callee (f := 13) rfl ?_); refine goesL_ (some 114) rfl rfl Tryd.func13 (by kernel_rfl) rfl #[.agg #[.int .i64 a2_0, .int .i64 a2_1, .int .i64 a2_2, .string a2_3, .string a2_4]] rfl (by (try simp only [List.map_toArray, List.map_cons, List.map_nil]); first | done | rfl) ?_; (with_reducible refine (ver_Check.calls a2_0 a2_1 a2_2 a2_3 a2_4 true _ A119.out).mono ?_); rintro e w206 ⟨rfl, hb⟩; refine ⟨_, rfl, ?_⟩; have n0_ := Aside0.mk (blk_below (g := gb0) (o := .cells #[.int .i64 a0_0, .int .i64 a0_1, .int .i64 a0_2, .string a0_3, .string a0_4] 23 (0, 0)) (by (with_reducible repeat (first | apply xN_ | apply xD_ | apply xA_)); exact BK0.out) hb); have n1_ := Aside0.mk (blk_below (g := gb1) (o := .cells #[.int .i64 a2_0, .int .i64 a2_1, .int .i64 a2_2, .string a2_3, .string a2_4] 23 (0, 0)) (by (with_reducible repeat (first | apply xN_ | apply xD_ | apply xA_)); exact BK1.out) hb); have n2_ := Aside0.mk (blk_below (g := gb2) (o := .cells #[.int .i64 t452, .int .i64 t453, .int .i64 t454, .string t455, .string t456] 23 (0, 0)) (by (with_reducible repeat (first | apply xN_ | apply xD_ | apply xA_)); exact BK2.out) hb); have n3_ := Aside0.mk (blk_below (g := gb3) (o := .cells #[.int .i64 t465, .int .i64 t466, .int .i64 t467, .string t468, .string t469] 23 (0, 0)) (by (with_reducible repeat (first | apply xN_ | apply xD_ | apply xA_)); exact BK3.out) hb); have n4_ := Aside0.mk (below_step (by repeat (first | (with_reducible first | exact HB.out | apply yA_ | apply yN_ | apply yD_ | refine yS_ ?_ GE0.out | refine yS_ ?_ GE1.out | refine yS_ ?_ GE2.out | refine yS_ ?_ GE3.out) | exact HB.out)) hb); clear BK0; clear BK1; clear BK2; clear BK3; clear HB; have BK0 := n0_; have BK1 := n1_; have BK2 := n2_; have BK3 := n3_; have HB := n4_; clear n0_ n1_ n2_ n3_ n4_; (try clear hb); have uz54_0 : w206.cell? ⟨gb1, 0, none⟩ = some (.int .i64 a2_0) := (xC_ BK1.out 0).trans rfl; have uz54_1 : w206.cell? ⟨gb1, 1, none⟩ = some (.int .i64 a2_1) := (xC_ BK1.out 1).trans rfl; have uz54_2 : w206.cell? ⟨gb1, 2, none⟩ = some (.int .i64 a2_2) := (xC_ BK1.out 2).trans rfl; have uz54_3 : w206.cell? ⟨gb1, 3, none⟩ = some (.string a2_3) := (xC_ BK1.out 3).trans rfl; have uz54_4 : w206.cell? ⟨gb1, 4, none⟩ = some (.string a2_4) := (xC_ BK1.out 4).trans rfl; have fz54_0 := xF_ BK1.out 0; have fz54_1 := xF_ BK1.out 1; have fz54_2 := xF_ BK1.out 2; have fz54_3 := xF_ BK1.out 3; have fz54_4 := xF_ BK1.out 4; have hnb208 := NB0_2.out; have hnc208 := NB2_0.out; have hnb209 := NB0_3.out; have hnc209 := NB3_0.out; have uz55_0 : w206.cell? ⟨gb0, 0, none⟩ = some (.int .i64 a0_0) := (xC_ BK0.out 0).trans rfl; have uz55_1 : w206.cell? ⟨gb0, 1, none⟩ = some (.int .i64 a0_1) := (xC_ BK0.out 1).trans rfl; have uz55_2 : w206.cell? ⟨gb0, 2, none⟩ = some (.int .i64 a0_2) := (xC_ BK0.out 2).trans rfl; have uz55_3 : w206.cell? ⟨gb0, 3, none⟩ = some (.string a0_3) := (xC_ BK0.out 3).trans rfl; have uz55_4 : w206.cell? ⟨gb0, 4, none⟩ = some (.string a0_4) := (xC_ BK0.out 4).trans rfl; have fz55_0 := xF_ BK0.out 0; have fz55_1 := xF_ BK0.out 1; have fz55_2 := xF_ BK0.out 2; have fz55_3 := xF_ BK0.out 3; have fz55_4 := xF_ BK0.out 4) | (go_at_call 19; (with_reducible refine (ver_Compare.calls kj97 a2_0 a2_1 a2_2 a2_3 a2_4 a0_0 a0_1 a0_2 a0_3 a0_4 t483 _ A199.out).mono ?_); rintro e w211 ⟨rfl, hb⟩; have n0_ := Aside0.mk (blk_below (g := gb0) (o := .cells #[.int .i64 a0_0, .int .i64 a0_1, .int .i64 a0_2, .string a0_3, .string a0_4] 23 (0, 0)) (by (with_reducible repeat (first | apply xN_ | apply xD_ | apply xA_)); exact BK0.out) hb); have n1_ := Aside0.mk (blk_below (g := gb1) (o := .cells #[.int .i64 a2_0, .int .i64 a2_1, .int .i64 a2_2, .string a2_3, .string a2_4] 23 (0, 0)) (by (with_reducible repeat (first | apply xN_ | apply xD_ | apply xA_)); exact BK1.out) hb); have n2_ := Aside0.mk (blk_below (g := gb2) (o := .cells #[.int .i64 t452, .int .i64 t453, .int .i64 t454, .string t455, .string t456] 23 (0, 0)) (by (with_reducible repeat (first | apply xN_ | apply xD_ | apply xA_)); exact BK2.out) hb); have n3_ := Aside0.mk (blk_below (g := gb3) (o := .cells #[.int .i64 t465, .int .i64 t466, .int .i64 t467, .string t468, .string t469] 23 (0, 0)) (by (with_reducible repeat (first | apply xN_ | apply xD_ | apply xA_)); exact BK3.out) hb); have n4_ := Aside0.mk (below_step (by repeat (first | (with_reducible first | exact HB.out | apply yA_ | apply yN_ | apply yD_ | refine yS_ ?_ GE0.out | refine yS_ ?_ GE1.out | refine yS_ ?_ GE2.out | refine yS_ ?_ GE3.out) | exact HB.out)) hb); clear BK0; clear BK1; clear BK2; clear BK3; clear HB; have BK0 := n0_; have BK1 := n1_; have BK2 := n2_; have BK3 := n3_; have HB := n4_; clear n0_ n1_ n2_ n3_ n4_; (try clear hb)) | (go_at_call 10; (with_reducible refine (armadalaw07_live.calls kj97  true _ A201.out (LW0 := LW.out.below (by repeat (first | (with_reducible first | exact HB.out | apply yA_ | apply yN_ | apply yD_ | refine yS_ ?_ GE0.out | refine yS_ ?_ GE1.out | refine yS_ ?_ GE2.out | refine yS_ ?_ GE3.out) | exact HB.out)))).mono ?_); rintro e w212 ⟨rfl, hb⟩; have n0_ := Aside0.mk (blk_below (g := gb0) (o := .cells #[.int .i64 a0_0, .int .i64 a0_1, .int .i64 a0_2, .string a0_3, .string a0_4] 23 (0, 0)) (by (with_reducible repeat (first | apply xN_ | apply xD_ | apply xA_)); exact BK0.out) hb); have n1_ := Aside0.mk (blk_below (g := gb1) (o := .cells #[.int .i64 a2_0, .int .i64 a2_1, .int .i64 a2_2, .string a2_3, .string a2_4] 23 (0, 0)) (by (with_reducible repeat (first | apply xN_ | apply xD_ | apply xA_)); exact BK1.out) hb); have n2_ := Aside0.mk (blk_below (g := gb2) (o := .cells #[.int .i64 t452, .int .i64 t453, .int .i64 t454, .string t455, .string t456] 23 (0, 0)) (by (with_reducible repeat (first | apply xN_ | apply xD_ | apply xA_)); exact BK2.out) hb); have n3_ := Aside0.mk (blk_below (g := gb3) (o := .cells #[.int .i64 t465, .int .i64 t466, .int .i64 t467, .string t468, .string t469] 23 (0, 0)) (by (with_reducible repeat (first | apply xN_ | apply xD_ | apply xA_)); exact BK3.out) hb); have n4_ := Aside0.mk (below_step (by repeat (first | (with_reducible first | exact HB.out | apply yA_ | apply yN_ | apply yD_ | refine yS_ ?_ GE0.out | refine yS_ ?_ GE1.out | refine yS_ ?_ GE2.out | refine yS_ ?_ GE3.out) | exact HB.out)) hb); clear BK0; clear BK1; clear BK2; clear BK3; clear HB; have BK0 := n0_; have BK1 := n1_; have BK2 := n2_; have BK3 := n3_; have HB := n4_; clear n0_ n1_ n2_ n3_ n4_; (try clear hb)))
                 go_ret
                 exact ⟨by first | rfl | (simp [errW_none, errW_some] <;> rfl) | (simp [*, errW_none, errW_some] <;> rfl), by repeat (first | (with_reducible first | exact HB.out | apply yA_ | apply yN_ | apply yD_ | refine yS_ ?_ GE0.out | refine yS_ ?_ GE1.out | refine yS_ ?_ GE2.out | refine yS_ ?_ GE3.out) | exact HB.out)⟩
                ·rw [if_neg c200] at H
                 have c200b0 : decide (t483 ≤ 0) = false := decide_eq_false c200
                 clear c200
                 replace H := Option.bind_eq_some_iff.mp H
                 obtain ⟨t485, A2130, H⟩ := H
                 replace H : (if t485 ≥ 0 then ((armadalaw07_live.f kj97).bind fun t486 => (some t486)) else (some false)) = some true := H
                 have A213 := Aside0.mk A2130
                 clear A2130
                 by_cases c214 : t485 ≥ 0
                 ·rw [if_pos c214] at H
                  have c214b0 : decide (0 ≤ t485) = true := decide_eq_true c214
                  clear c214
                  replace H := Option.bind_eq_some_iff.mp H
                  obtain ⟨t486, A2150, H⟩ := H
                  replace H : (some t486) = some true := H
                  have A215 := Aside0.mk A2150
                  clear A2150
                  obtain rfl := Option.some.inj H
                  have hnb216 := NB1_0.out
                  have hnc216 := NB0_1.out
                  have hnb217 := NB1_2.out
                  have hnc217 := NB2_1.out
                  have hnb218 := NB1_3.out
                  have hnc218 := NB3_1.out
                  have uz56_0 : wc.cell? ⟨gb1, 0, none⟩ = some (.int .i64 a2_0) := (xC_ BK1.out 0).trans rfl
                  have uz56_1 : wc.cell? ⟨gb1, 1, none⟩ = some (.int .i64 a2_1) := (xC_ BK1.out 1).trans rfl
                  have uz56_2 : wc.cell? ⟨gb1, 2, none⟩ = some (.int .i64 a2_2) := (xC_ BK1.out 2).trans rfl
                  have uz56_3 : wc.cell? ⟨gb1, 3, none⟩ = some (.string a2_3) := (xC_ BK1.out 3).trans rfl
                  have uz56_4 : wc.cell? ⟨gb1, 4, none⟩ = some (.string a2_4) := (xC_ BK1.out 4).trans rfl
                  have fz56_0 := xF_ BK1.out 0
                  have fz56_1 := xF_ BK1.out 1
                  have fz56_2 := xF_ BK1.out 2
                  have fz56_3 := xF_ BK1.out 3
                  have fz56_4 := xF_ BK1.out 4
                  go_wp2_with (first | ((with_reducible refine gate_callee (f := 13) rfl ?_); refine goesL_ (some 114) rfl rfl Tryd.func13 (by kernel_rfl) rfl #[.agg #[.int .i64 a2_0, .int .i64 a2_1, .int .i64 a2_2, .string a2_3, .string a2_4]] rfl (by (try simp only [List.map_toArray, List.map_cons, List.map_nil]); first | done | rfl) ?_; (with_reducible refine (ver_Check.calls a2_0 a2_1 a2_2 a2_3 a2_4 true _ A119.out).mono ?_); rintro e w220 ⟨rfl, hb⟩; refine ⟨_, rfl, ?_⟩; have n0_ := Aside0.mk (blk_below (g := gb0) (o := .cells #[.int .i64 a0_0, .int .i64 a0_1, .int .i64 a0_2, .string a0_3, .string a0_4] 23 (0, 0)) (by (with_reducible repeat (first | apply xN_ | apply xD_ | apply xA_)); exact BK0.out) hb); have n1_ := Aside0.mk (blk_below (g := gb1) (o := .cells #[.int .i64 a2_0, .int .i64 a2_1, .int .i64 a2_2, .string a2_3, .string a2_4] 23 (0, 0)) (by (with_reducible repeat (first | apply xN_ | apply xD_ | apply xA_)); exact BK1.out) hb); have n2_ := Aside0.mk (blk_below (g := gb2) (o := .cells #[.int .i64 t452, .int .i64 t453, .int .i64 t454, .string t455, .string t456] 23 (0, 0)) (by (with_reducible repeat (first | apply xN_ | apply xD_ | apply xA_)); exact BK2.out) hb); have n3_ := Aside0.mk (blk_below (g := gb3) (o := .cells #[.int .i64 t465, .int .i64 t466, .int .i64 t467, .string t468, .string t469] 23 (0, 0)) (by (with_reducible repeat (first | apply xN_ | apply xD_ | apply xA_)); exact BK3.out) hb); have n4_ := Aside0.mk (below_step (by repeat (first | (with_reducible first | exact HB.out | apply yA_ | apply yN_ | apply yD_ | refine yS_ ?_ GE0.out | refine yS_ ?_ GE1.out | refine yS_ ?_ GE2.out | refine yS_ ?_ GE3.out) | exact HB.out)) hb); clear BK0; clear BK1; clear BK2; clear BK3; clear HB; have BK0 := n0_; have BK1 := n1_; have BK2 := n2_; have BK3 := n3_; have HB := n4_; clear n0_ n1_ n2_ n3_ n4_; (try clear hb); have uz57_0 : w220.cell? ⟨gb1, 0, none⟩ = some (.int .i64 a2_0) := (xC_ BK1.out 0).trans rfl; have uz57_1 : w220.cell? ⟨gb1, 1, none⟩ = some (.int .i64 a2_1) := (xC_ BK1.out 1).trans rfl; have uz57_2 : w220.cell? ⟨gb1, 2, none⟩ = some (.int .i64 a2_2) := (xC_ BK1.out 2).trans rfl; have uz57_3 : w220.cell? ⟨gb1, 3, none⟩ = some (.string a2_3) := (xC_ BK1.out 3).trans rfl; have uz57_4 : w220.cell? ⟨gb1, 4, none⟩ = some (.string a2_4) := (xC_ BK1.out 4).trans rfl; have fz57_0 := xF_ BK1.out 0; have fz57_1 := xF_ BK1.out 1; have fz57_2 := xF_ BK1.out 2; have fz57_3 := xF_ BK1.out 3; have fz57_4 := xF_ BK1.out 4; have hnb222 := NB0_2.out; have hnc222 := NB2_0.out; have hnb223 := NB0_3.out; have hnc223 := NB3_0.out; have uz58_0 : w220.cell? ⟨gb0, 0, none⟩ = some (.int .i64 a0_0) := (xC_ BK0.out 0).trans rfl; have uz58_1 : w220.cell? ⟨gb0, 1, none⟩ = some (.int .i64 a0_1) := (xC_ BK0.out 1).trans rfl; have uz58_2 : w220.cell? ⟨gb0, 2, none⟩ = some (.int .i64 a0_2) := (xC_ BK0.out 2).trans rfl; have uz58_3 : w220.cell? ⟨gb0, 3, none⟩ = some (.string a0_3) := (xC_ BK0.out 3).trans rfl; have uz58_4 : w220.cell? ⟨gb0, 4, none⟩ = some (.string a0_4) := (xC_ BK0.out 4).trans rfl; have fz58_0 := xF_ BK0.out 0; have fz58_1 := xF_ BK0.out 1; have fz58_2 := xF_ BK0.out 2; have fz58_3 := xF_ BK0.out 3; have fz58_4 := xF_ BK0.out 4) | (go_at_call 19; (with_reducible refine (ver_Compare.calls kj97 a2_0 a2_1 a2_2 a2_3 a2_4 a0_0 a0_1 a0_2 a0_3 a0_4 t483 _ A199.out).mono ?_); rintro e w225 ⟨rfl, hb⟩; have n0_ := Aside0.mk (blk_below (g := gb0) (o := .cells #[.int .i64 a0_0, .int .i64 a0_1, .int .i64 a0_2, .string a0_3, .string a0_4] 23 (0, 0)) (by (with_reducible repeat (first | apply xN_ | apply xD_ | apply xA_)); exact BK0.out) hb); have n1_ := Aside0.mk (blk_below (g := gb1) (o := .cells #[.int .i64 a2_0, .int .i64 a2_1, .int .i64 a2_2, .string a2_3, .string a2_4] 23 (0, 0)) (by (with_reducible repeat (first | apply xN_ | apply xD_ | apply xA_)); exact BK1.out) hb); have n2_ := Aside0.mk (blk_below (g := gb2) (o := .cells #[.int .i64 t452, .int .i64 t453, .int .i64 t454, .string t455, .string t456] 23 (0, 0)) (by (with_reducible repeat (first | apply xN_ | apply xD_ | apply xA_)); exact BK2.out) hb); have n3_ := Aside0.mk (blk_below (g := gb3) (o := .cells #[.int .i64 t465, .int .i64 t466, .int .i64 t467, .string t468, .string t469] 23 (0, 0)) (by (with_reducible repeat (first | apply xN_ | apply xD_ | apply xA_)); exact BK3.out) hb); have n4_ := Aside0.mk (below_step (by repeat (first | (with_reducible first | exact HB.out | apply yA_ | apply yN_ | apply yD_ | refine yS_ ?_ GE0.out | refine yS_ ?_ GE1.out | refine yS_ ?_ GE2.out | refine yS_ ?_ GE3.out) | exact HB.out)) hb); clear BK0; clear BK1; clear BK2; clear BK3; clear HB; have BK0 := n0_; have BK1 := n1_; have BK2 := n2_; have BK3 := n3_; have HB := n4_; clear n0_ n1_ n2_ n3_ n4_; (try clear hb); have uz59_0 : w225.cell? ⟨gb1, 0, none⟩ = some (.int .i64 a2_0) := (xC_ BK1.out 0).trans rfl; have uz59_1 : w225.cell? ⟨gb1, 1, none⟩ = some (.int .i64 a2_1) := (xC_ BK1.out 1).trans rfl; have uz59_2 : w225.cell? ⟨gb1, 2, none⟩ = some (.int .i64 a2_2) := (xC_ BK1.out 2).trans rfl; have uz59_3 : w225.cell? ⟨gb1, 3, none⟩ = some (.string a2_3) := (xC_ BK1.out 3).trans rfl; have uz59_4 : w225.cell? ⟨gb1, 4, none⟩ = some (.string a2_4) := (xC_ BK1.out 4).trans rfl; have fz59_0 := xF_ BK1.out 0; have fz59_1 := xF_ BK1.out 1; have fz59_2 := xF_ BK1.out 2; have fz59_3 := xF_ BK1.out 3; have fz59_4 := xF_ BK1.out 4; have hnb227 := NB2_3.out; have hnc227 := NB3_2.out; have uz60_0 : w225.cell? ⟨gb2, 0, none⟩ = some (.int .i64 t452) := (xC_ BK2.out 0).trans rfl; have uz60_1 : w225.cell? ⟨gb2, 1, none⟩ = some (.int .i64 t453) := (xC_ BK2.out 1).trans rfl; have uz60_2 : w225.cell? ⟨gb2, 2, none⟩ = some (.int .i64 t454) := (xC_ BK2.out 2).trans rfl; have uz60_3 : w225.cell? ⟨gb2, 3, none⟩ = some (.string t455) := (xC_ BK2.out 3).trans rfl; have uz60_4 : w225.cell? ⟨gb2, 4, none⟩ = some (.string t456) := (xC_ BK2.out 4).trans rfl; have fz60_0 := xF_ BK2.out 0; have fz60_1 := xF_ BK2.out 1; have fz60_2 := xF_ BK2.out 2; have fz60_3 := xF_ BK2.out 3; have fz60_4 := xF_ BK2.out 4) | (go_at_call 19; (with_reducible refine (ver_Compare.calls kj97 a2_0 a2_1 a2_2 a2_3 a2_4 t452 t453 t454 t455 t456 t485 _ A213.out).mono ?_); rintro e w229 ⟨rfl, hb⟩; have n0_ := Aside0.mk (blk_below (g := gb0) (o := .cells #[.int .i64 a0_0, .int .i64 a0_1, .int .i64 a0_2, .string a0_3, .string a0_4] 23 (0, 0)) (by (with_reducible repeat (first | apply xN_ | apply xD_ | apply xA_)); exact BK0.out) hb); have n1_ := Aside0.mk (blk_below (g := gb1) (o := .cells #[.int .i64 a2_0, .int .i64 a2_1, .int .i64 a2_2, .string a2_3, .string a2_4] 23 (0, 0)) (by (with_reducible repeat (first | apply xN_ | apply xD_ | apply xA_)); exact BK1.out) hb); have n2_ := Aside0.mk (blk_below (g := gb2) (o := .cells #[.int .i64 t452, .int .i64 t453, .int .i64 t454, .string t455, .string t456] 23 (0, 0)) (by (with_reducible repeat (first | apply xN_ | apply xD_ | apply xA_)); exact BK2.out) hb); have n3_ := Aside0.mk (blk_below (g := gb3) (o := .cells #[.int .i64 t465, .int .i64 t466, .int .i64 t467, .string t468, .string t469] 23 (0, 0)) (by (with_reducible repeat (first | apply xN_ | apply xD_ | apply xA_)); exact BK3.out) hb); have n4_ := Aside0.mk (below_step (by repeat (first | (with_reducible first | exact HB.out | apply yA_ | apply yN_ | apply yD_ | refine yS_ ?_ GE0.out | refine yS_ ?_ GE1.out | refine yS_ ?_ GE2.out | refine yS_ ?_ GE3.out) | exact HB.out)) hb); clear BK0; clear BK1; clear BK2; clear BK3; clear HB; have BK0 := n0_; have BK1 := n1_; have BK2 := n2_; have BK3 := n3_; have HB := n4_; clear n0_ n1_ n2_ n3_ n4_; (try clear hb)) | (go_at_call 10; (with_reducible refine (armadalaw07_live.calls kj97  true _ A215.out (LW0 := LW.out.below (by repeat (first | (with_reducible first | exact HB.out | apply yA_ | apply yN_ | apply yD_ | refine yS_ ?_ GE0.out | refine yS_ ?_ GE1.out | refine yS_ ?_ GE2.out | refine yS_ ?_ GE3.out) | exact HB.out)))).mono ?_); rintro e w230 ⟨rfl, hb⟩; have n0_ := Aside0.mk (blk_below (g := gb0) (o := .cells #[.int .i64 a0_0, .int .i64 a0_1, .int .i64 a0_2, .string a0_3, .string a0_4] 23 (0, 0)) (by (with_reducible repeat (first | apply xN_ | apply xD_ | apply xA_)); exact BK0.out) hb); have n1_ := Aside0.mk (blk_below (g := gb1) (o := .cells #[.int .i64 a2_0, .int .i64 a2_1, .int .i64 a2_2, .string a2_3, .string a2_4] 23 (0, 0)) (by (with_reducible repeat (first | apply xN_ | apply xD_ | apply xA_)); exact BK1.out) hb); have n2_ := Aside0.mk (blk_below (g := gb2) (o := .cells #[.int .i64 t452, .int .i64 t453, .int .i64 t454, .string t455, .string t456] 23 (0, 0)) (by (with_reducible repeat (first | apply xN_ | apply xD_ | apply xA_)); exact BK2.out) hb); have n3_ := Aside0.mk (blk_below (g := gb3) (o := .cells #[.int .i64 t465, .int .i64 t466, .int .i64 t467, .string t468, .string t469] 23 (0, 0)) (by (with_reducible repeat (first | apply xN_ | apply xD_ | apply xA_)); exact BK3.out) hb); have n4_ := Aside0.mk (below_step (by repeat (first | (with_reducible first | exact HB.out | apply yA_ | apply yN_ | apply yD_ | refine yS_ ?_ GE0.out | refine yS_ ?_ GE1.out | refine yS_ ?_ GE2.out | refine yS_ ?_ GE3.out) | exact HB.out)) hb); clear BK0; clear BK1; clear BK2; clear BK3; clear HB; have BK0 := n0_; have BK1 := n1_; have BK2 := n2_; have BK3 := n3_; have HB := n4_; clear n0_ n1_ n2_ n3_ n4_; (try clear hb)))
                  go_ret
                  exact ⟨by first | rfl | (simp [errW_none, errW_some] <;> rfl) | (simp [*, errW_none, errW_some] <;> rfl), by repeat (first | (with_reducible first | exact HB.out | apply yA_ | apply yN_ | apply yD_ | refine yS_ ?_ GE0.out | refine yS_ ?_ GE1.out | refine yS_ ?_ GE2.out | refine yS_ ?_ GE3.out) | exact HB.out)⟩
                 ·rw [if_neg c214] at H
                  have c214b0 : decide (0 ≤ t485) = false := decide_eq_false c214
                  clear c214
                  exact absurd H (by simp)
               ·rw [if_neg c198] at H
                have c198b0 : decide (a1 < 3) = false := decide_eq_false c198
                clear c198
                by_cases c231 : a2_1 = 0
                ·rw [if_pos c231] at H
                 have c231b0 : (a2_1 == 0) = true := beq_iff_eq.mpr c231
                 have c231b1 : (a2_1 != 0) = false := bne_eq_false_iff_eq.mpr c231
                 clear c231
                 replace H := Option.bind_eq_some_iff.mp H
                 obtain ⟨t487, A2320, H⟩ := H
                 replace H : (if t487 ≤ 0 then ((armadalaw07_live.f kj97).bind fun t488 => (some t488)) else ((ver_Compare.f kj97 a2_0 a2_1 a2_2 a2_3 a2_4 t452 t453 t454 t455 t456).bind fun t489 => (if t489 ≥ 0 then ((armadalaw07_live.f kj97).bind fun t490 => (some t490)) else (some false)))) = some true := H
                 have A232 := Aside0.mk A2320
                 clear A2320
                 by_cases c233 : t487 ≤ 0
                 ·rw [if_pos c233] at H
                  have c233b0 : decide (t487 ≤ 0) = true := decide_eq_true c233
                  clear c233
                  replace H := Option.bind_eq_some_iff.mp H
                  obtain ⟨t488, A2340, H⟩ := H
                  replace H : (some t488) = some true := H
                  have A234 := Aside0.mk A2340
                  clear A2340
                  obtain rfl := Option.some.inj H
                  have hnb235 := NB1_0.out
                  have hnc235 := NB0_1.out
                  have hnb236 := NB1_2.out
                  have hnc236 := NB2_1.out
                  have hnb237 := NB1_3.out
                  have hnc237 := NB3_1.out
                  have uz61_0 : wc.cell? ⟨gb1, 0, none⟩ = some (.int .i64 a2_0) := (xC_ BK1.out 0).trans rfl
                  have uz61_1 : wc.cell? ⟨gb1, 1, none⟩ = some (.int .i64 a2_1) := (xC_ BK1.out 1).trans rfl
                  have uz61_2 : wc.cell? ⟨gb1, 2, none⟩ = some (.int .i64 a2_2) := (xC_ BK1.out 2).trans rfl
                  have uz61_3 : wc.cell? ⟨gb1, 3, none⟩ = some (.string a2_3) := (xC_ BK1.out 3).trans rfl
                  have uz61_4 : wc.cell? ⟨gb1, 4, none⟩ = some (.string a2_4) := (xC_ BK1.out 4).trans rfl
                  have fz61_0 := xF_ BK1.out 0
                  have fz61_1 := xF_ BK1.out 1
                  have fz61_2 := xF_ BK1.out 2
                  have fz61_3 := xF_ BK1.out 3
                  have fz61_4 := xF_ BK1.out 4
                  go_wp2_with (first | ((with_reducible refine gate_callee (f := 13) rfl ?_); refine goesL_ (some 114) rfl rfl Tryd.func13 (by kernel_rfl) rfl #[.agg #[.int .i64 a2_0, .int .i64 a2_1, .int .i64 a2_2, .string a2_3, .string a2_4]] rfl (by (try simp only [List.map_toArray, List.map_cons, List.map_nil]); first | done | rfl) ?_; (with_reducible refine (ver_Check.calls a2_0 a2_1 a2_2 a2_3 a2_4 true _ A119.out).mono ?_); rintro e w239 ⟨rfl, hb⟩; refine ⟨_, rfl, ?_⟩; have n0_ := Aside0.mk (blk_below (g := gb0) (o := .cells #[.int .i64 a0_0, .int .i64 a0_1, .int .i64 a0_2, .string a0_3, .string a0_4] 23 (0, 0)) (by (with_reducible repeat (first | apply xN_ | apply xD_ | apply xA_)); exact BK0.out) hb); have n1_ := Aside0.mk (blk_below (g := gb1) (o := .cells #[.int .i64 a2_0, .int .i64 a2_1, .int .i64 a2_2, .string a2_3, .string a2_4] 23 (0, 0)) (by (with_reducible repeat (first | apply xN_ | apply xD_ | apply xA_)); exact BK1.out) hb); have n2_ := Aside0.mk (blk_below (g := gb2) (o := .cells #[.int .i64 t452, .int .i64 t453, .int .i64 t454, .string t455, .string t456] 23 (0, 0)) (by (with_reducible repeat (first | apply xN_ | apply xD_ | apply xA_)); exact BK2.out) hb); have n3_ := Aside0.mk (blk_below (g := gb3) (o := .cells #[.int .i64 t465, .int .i64 t466, .int .i64 t467, .string t468, .string t469] 23 (0, 0)) (by (with_reducible repeat (first | apply xN_ | apply xD_ | apply xA_)); exact BK3.out) hb); have n4_ := Aside0.mk (below_step (by repeat (first | (with_reducible first | exact HB.out | apply yA_ | apply yN_ | apply yD_ | refine yS_ ?_ GE0.out | refine yS_ ?_ GE1.out | refine yS_ ?_ GE2.out | refine yS_ ?_ GE3.out) | exact HB.out)) hb); clear BK0; clear BK1; clear BK2; clear BK3; clear HB; have BK0 := n0_; have BK1 := n1_; have BK2 := n2_; have BK3 := n3_; have HB := n4_; clear n0_ n1_ n2_ n3_ n4_; (try clear hb); have uz62_0 : w239.cell? ⟨gb1, 0, none⟩ = some (.int .i64 a2_0) := (xC_ BK1.out 0).trans rfl; have uz62_1 : w239.cell? ⟨gb1, 1, none⟩ = some (.int .i64 a2_1) := (xC_ BK1.out 1).trans rfl; have uz62_2 : w239.cell? ⟨gb1, 2, none⟩ = some (.int .i64 a2_2) := (xC_ BK1.out 2).trans rfl; have uz62_3 : w239.cell? ⟨gb1, 3, none⟩ = some (.string a2_3) := (xC_ BK1.out 3).trans rfl; have uz62_4 : w239.cell? ⟨gb1, 4, none⟩ = some (.string a2_4) := (xC_ BK1.out 4).trans rfl; have fz62_0 := xF_ BK1.out 0; have fz62_1 := xF_ BK1.out 1; have fz62_2 := xF_ BK1.out 2; have fz62_3 := xF_ BK1.out 3; have fz62_4 := xF_ BK1.out 4; have hnb241 := NB0_2.out; have hnc241 := NB2_0.out; have hnb242 := NB0_3.out; have hnc242 := NB3_0.out; have uz63_0 : w239.cell? ⟨gb0, 0, none⟩ = some (.int .i64 a0_0) := (xC_ BK0.out 0).trans rfl; have uz63_1 : w239.cell? ⟨gb0, 1, none⟩ = some (.int .i64 a0_1) := (xC_ BK0.out 1).trans rfl; have uz63_2 : w239.cell? ⟨gb0, 2, none⟩ = some (.int .i64 a0_2) := (xC_ BK0.out 2).trans rfl; have uz63_3 : w239.cell? ⟨gb0, 3, none⟩ = some (.string a0_3) := (xC_ BK0.out 3).trans rfl; have uz63_4 : w239.cell? ⟨gb0, 4, none⟩ = some (.string a0_4) := (xC_ BK0.out 4).trans rfl; have fz63_0 := xF_ BK0.out 0; have fz63_1 := xF_ BK0.out 1; have fz63_2 := xF_ BK0.out 2; have fz63_3 := xF_ BK0.out 3; have fz63_4 := xF_ BK0.out 4) | (go_at_call 19; (with_reducible refine (ver_Compare.calls kj97 a2_0 a2_1 a2_2 a2_3 a2_4 a0_0 a0_1 a0_2 a0_3 a0_4 t487 _ A232.out).mono ?_); rintro e w244 ⟨rfl, hb⟩; have n0_ := Aside0.mk (blk_below (g := gb0) (o := .cells #[.int .i64 a0_0, .int .i64 a0_1, .int .i64 a0_2, .string a0_3, .string a0_4] 23 (0, 0)) (by (with_reducible repeat (first | apply xN_ | apply xD_ | apply xA_)); exact BK0.out) hb); have n1_ := Aside0.mk (blk_below (g := gb1) (o := .cells #[.int .i64 a2_0, .int .i64 a2_1, .int .i64 a2_2, .string a2_3, .string a2_4] 23 (0, 0)) (by (with_reducible repeat (first | apply xN_ | apply xD_ | apply xA_)); exact BK1.out) hb); have n2_ := Aside0.mk (blk_below (g := gb2) (o := .cells #[.int .i64 t452, .int .i64 t453, .int .i64 t454, .string t455, .string t456] 23 (0, 0)) (by (with_reducible repeat (first | apply xN_ | apply xD_ | apply xA_)); exact BK2.out) hb); have n3_ := Aside0.mk (blk_below (g := gb3) (o := .cells #[.int .i64 t465, .int .i64 t466, .int .i64 t467, .string t468, .string t469] 23 (0, 0)) (by (with_reducible repeat (first | apply xN_ | apply xD_ | apply xA_)); exact BK3.out) hb); have n4_ := Aside0.mk (below_step (by repeat (first | (with_reducible first | exact HB.out | apply yA_ | apply yN_ | apply yD_ | refine yS_ ?_ GE0.out | refine yS_ ?_ GE1.out | refine yS_ ?_ GE2.out | refine yS_ ?_ GE3.out) | exact HB.out)) hb); clear BK0; clear BK1; clear BK2; clear BK3; clear HB; have BK0 := n0_; have BK1 := n1_; have BK2 := n2_; have BK3 := n3_; have HB := n4_; clear n0_ n1_ n2_ n3_ n4_; (try clear hb)) | (go_at_call 10; (with_reducible refine (armadalaw07_live.calls kj97  true _ A234.out (LW0 := LW.out.below (by repeat (first | (with_reducible first | exact HB.out | apply yA_ | apply yN_ | apply yD_ | refine yS_ ?_ GE0.out | refine yS_ ?_ GE1.out | refine yS_ ?_ GE2.out | refine yS_ ?_ GE3.out) | exact HB.out)))).mono ?_); rintro e w245 ⟨rfl, hb⟩; have n0_ := Aside0.mk (blk_below (g := gb0) (o := .cells #[.int .i64 a0_0, .int .i64 a0_1, .int .i64 a0_2, .string a0_3, .string a0_4] 23 (0, 0)) (by (with_reducible repeat (first | apply xN_ | apply xD_ | apply xA_)); exact BK0.out) hb); have n1_ := Aside0.mk (blk_below (g := gb1) (o := .cells #[.int .i64 a2_0, .int .i64 a2_1, .int .i64 a2_2, .string a2_3, .string a2_4] 23 (0, 0)) (by (with_reducible repeat (first | apply xN_ | apply xD_ | apply xA_)); exact BK1.out) hb); have n2_ := Aside0.mk (blk_below (g := gb2) (o := .cells #[.int .i64 t452, .int .i64 t453, .int .i64 t454, .string t455, .string t456] 23 (0, 0)) (by (with_reducible repeat (first | apply xN_ | apply xD_ | apply xA_)); exact BK2.out) hb); have n3_ := Aside0.mk (blk_below (g := gb3) (o := .cells #[.int .i64 t465, .int .i64 t466, .int .i64 t467, .string t468, .string t469] 23 (0, 0)) (by (with_reducible repeat (first | apply xN_ | apply xD_ | apply xA_)); exact BK3.out) hb); have n4_ := Aside0.mk (below_step (by repeat (first | (with_reducible first | exact HB.out | apply yA_ | apply yN_ | apply yD_ | refine yS_ ?_ GE0.out | refine yS_ ?_ GE1.out | refine yS_ ?_ GE2.out | refine yS_ ?_ GE3.out) | exact HB.out)) hb); clear BK0; clear BK1; clear BK2; clear BK3; clear HB; have BK0 := n0_; have BK1 := n1_; have BK2 := n2_; have BK3 := n3_; have HB := n4_; clear n0_ n1_ n2_ n3_ n4_; (try clear hb)))
                  go_ret
                  exact ⟨by first | rfl | (simp [errW_none, errW_some] <;> rfl) | (simp [*, errW_none, errW_some] <;> rfl), by repeat (first | (with_reducible first | exact HB.out | apply yA_ | apply yN_ | apply yD_ | refine yS_ ?_ GE0.out | refine yS_ ?_ GE1.out | refine yS_ ?_ GE2.out | refine yS_ ?_ GE3.out) | exact HB.out)⟩
                 ·rw [if_neg c233] at H
                  have c233b0 : decide (t487 ≤ 0) = false := decide_eq_false c233
                  clear c233
                  replace H := Option.bind_eq_some_iff.mp H
                  obtain ⟨t489, A2460, H⟩ := H
                  replace H : (if t489 ≥ 0 then ((armadalaw07_live.f kj97).bind fun t490 => (some t490)) else (some false)) = some true := H
                  have A246 := Aside0.mk A2460
                  clear A2460
                  by_cases c247 : t489 ≥ 0
                  ·rw [if_pos c247] at H
                   have c247b0 : decide (0 ≤ t489) = true := decide_eq_true c247
                   clear c247
                   replace H := Option.bind_eq_some_iff.mp H
                   obtain ⟨t490, A2480, H⟩ := H
                   replace H : (some t490) = some true := H
                   have A248 := Aside0.mk A2480
                   clear A2480
                   obtain rfl := Option.some.inj H
                   have hnb249 := NB1_0.out
                   have hnc249 := NB0_1.out
                   have hnb250 := NB1_2.out
                   have hnc250 := NB2_1.out
                   have hnb251 := NB1_3.out
                   have hnc251 := NB3_1.out
                   have uz64_0 : wc.cell? ⟨gb1, 0, none⟩ = some (.int .i64 a2_0) := (xC_ BK1.out 0).trans rfl
                   have uz64_1 : wc.cell? ⟨gb1, 1, none⟩ = some (.int .i64 a2_1) := (xC_ BK1.out 1).trans rfl
                   have uz64_2 : wc.cell? ⟨gb1, 2, none⟩ = some (.int .i64 a2_2) := (xC_ BK1.out 2).trans rfl
                   have uz64_3 : wc.cell? ⟨gb1, 3, none⟩ = some (.string a2_3) := (xC_ BK1.out 3).trans rfl
                   have uz64_4 : wc.cell? ⟨gb1, 4, none⟩ = some (.string a2_4) := (xC_ BK1.out 4).trans rfl
                   have fz64_0 := xF_ BK1.out 0
                   have fz64_1 := xF_ BK1.out 1
                   have fz64_2 := xF_ BK1.out 2
                   have fz64_3 := xF_ BK1.out 3
                   have fz64_4 := xF_ BK1.out 4
                   go_wp2_with (first | ((with_reducible refine gate_callee (f := 13) rfl ?_); refine goesL_ (some 114) rfl rfl Tryd.func13 (by kernel_rfl) rfl #[.agg #[.int .i64 a2_0, .int .i64 a2_1, .int .i64 a2_2, .string a2_3, .string a2_4]] rfl (by (try simp only [List.map_toArray, List.map_cons, List.map_nil]); first | done | rfl) ?_; (with_reducible refine (ver_Check.calls a2_0 a2_1 a2_2 a2_3 a2_4 true _ A119.out).mono ?_); rintro e w253 ⟨rfl, hb⟩; refine ⟨_, rfl, ?_⟩; have n0_ := Aside0.mk (blk_below (g := gb0) (o := .cells #[.int .i64 a0_0, .int .i64 a0_1, .int .i64 a0_2, .string a0_3, .string a0_4] 23 (0, 0)) (by (with_reducible repeat (first | apply xN_ | apply xD_ | apply xA_)); exact BK0.out) hb); have n1_ := Aside0.mk (blk_below (g := gb1) (o := .cells #[.int .i64 a2_0, .int .i64 a2_1, .int .i64 a2_2, .string a2_3, .string a2_4] 23 (0, 0)) (by (with_reducible repeat (first | apply xN_ | apply xD_ | apply xA_)); exact BK1.out) hb); have n2_ := Aside0.mk (blk_below (g := gb2) (o := .cells #[.int .i64 t452, .int .i64 t453, .int .i64 t454, .string t455, .string t456] 23 (0, 0)) (by (with_reducible repeat (first | apply xN_ | apply xD_ | apply xA_)); exact BK2.out) hb); have n3_ := Aside0.mk (blk_below (g := gb3) (o := .cells #[.int .i64 t465, .int .i64 t466, .int .i64 t467, .string t468, .string t469] 23 (0, 0)) (by (with_reducible repeat (first | apply xN_ | apply xD_ | apply xA_)); exact BK3.out) hb); have n4_ := Aside0.mk (below_step (by repeat (first | (with_reducible first | exact HB.out | apply yA_ | apply yN_ | apply yD_ | refine yS_ ?_ GE0.out | refine yS_ ?_ GE1.out | refine yS_ ?_ GE2.out | refine yS_ ?_ GE3.out) | exact HB.out)) hb); clear BK0; clear BK1; clear BK2; clear BK3; clear HB; have BK0 := n0_; have BK1 := n1_; have BK2 := n2_; have BK3 := n3_; have HB := n4_; clear n0_ n1_ n2_ n3_ n4_; (try clear hb); have uz65_0 : w253.cell? ⟨gb1, 0, none⟩ = some (.int .i64 a2_0) := (xC_ BK1.out 0).trans rfl; have uz65_1 : w253.cell? ⟨gb1, 1, none⟩ = some (.int .i64 a2_1) := (xC_ BK1.out 1).trans rfl; have uz65_2 : w253.cell? ⟨gb1, 2, none⟩ = some (.int .i64 a2_2) := (xC_ BK1.out 2).trans rfl; have uz65_3 : w253.cell? ⟨gb1, 3, none⟩ = some (.string a2_3) := (xC_ BK1.out 3).trans rfl; have uz65_4 : w253.cell? ⟨gb1, 4, none⟩ = some (.string a2_4) := (xC_ BK1.out 4).trans rfl; have fz65_0 := xF_ BK1.out 0; have fz65_1 := xF_ BK1.out 1; have fz65_2 := xF_ BK1.out 2; have fz65_3 := xF_ BK1.out 3; have fz65_4 := xF_ BK1.out 4; have hnb255 := NB0_2.out; have hnc255 := NB2_0.out; have hnb256 := NB0_3.out; have hnc256 := NB3_0.out; have uz66_0 : w253.cell? ⟨gb0, 0, none⟩ = some (.int .i64 a0_0) := (xC_ BK0.out 0).trans rfl; have uz66_1 : w253.cell? ⟨gb0, 1, none⟩ = some (.int .i64 a0_1) := (xC_ BK0.out 1).trans rfl; have uz66_2 : w253.cell? ⟨gb0, 2, none⟩ = some (.int .i64 a0_2) := (xC_ BK0.out 2).trans rfl; have uz66_3 : w253.cell? ⟨gb0, 3, none⟩ = some (.string a0_3) := (xC_ BK0.out 3).trans rfl; have uz66_4 : w253.cell? ⟨gb0, 4, none⟩ = some (.string a0_4) := (xC_ BK0.out 4).trans rfl; have fz66_0 := xF_ BK0.out 0; have fz66_1 := xF_ BK0.out 1; have fz66_2 := xF_ BK0.out 2; have fz66_3 := xF_ BK0.out 3; have fz66_4 := xF_ BK0.out 4) | (go_at_call 19; (with_reducible refine (ver_Compare.calls kj97 a2_0 a2_1 a2_2 a2_3 a2_4 a0_0 a0_1 a0_2 a0_3 a0_4 t487 _ A232.out).mono ?_); rintro e w258 ⟨rfl, hb⟩; have n0_ := Aside0.mk (blk_below (g := gb0) (o := .cells #[.int .i64 a0_0, .int .i64 a0_1, .int .i64 a0_2, .string a0_3, .string a0_4] 23 (0, 0)) (by (with_reducible repeat (first | apply xN_ | apply xD_ | apply xA_)); exact BK0.out) hb); have n1_ := Aside0.mk (blk_below (g := gb1) (o := .cells #[.int .i64 a2_0, .int .i64 a2_1, .int .i64 a2_2, .string a2_3, .string a2_4] 23 (0, 0)) (by (with_reducible repeat (first | apply xN_ | apply xD_ | apply xA_)); exact BK1.out) hb); have n2_ := Aside0.mk (blk_below (g := gb2) (o := .cells #[.int .i64 t452, .int .i64 t453, .int .i64 t454, .string t455, .string t456] 23 (0, 0)) (by (with_reducible repeat (first | apply xN_ | apply xD_ | apply xA_)); exact BK2.out) hb); have n3_ := Aside0.mk (blk_below (g := gb3) (o := .cells #[.int .i64 t465, .int .i64 t466, .int .i64 t467, .string t468, .string t469] 23 (0, 0)) (by (with_reducible repeat (first | apply xN_ | apply xD_ | apply xA_)); exact BK3.out) hb); have n4_ := Aside0.mk (below_step (by repeat (first | (with_reducible first | exact HB.out | apply yA_ | apply yN_ | apply yD_ | refine yS_ ?_ GE0.out | refine yS_ ?_ GE1.out | refine yS_ ?_ GE2.out | refine yS_ ?_ GE3.out) | exact HB.out)) hb); clear BK0; clear BK1; clear BK2; clear BK3; clear HB; have BK0 := n0_; have BK1 := n1_; have BK2 := n2_; have BK3 := n3_; have HB := n4_; clear n0_ n1_ n2_ n3_ n4_; (try clear hb); have uz67_0 : w258.cell? ⟨gb1, 0, none⟩ = some (.int .i64 a2_0) := (xC_ BK1.out 0).trans rfl; have uz67_1 : w258.cell? ⟨gb1, 1, none⟩ = some (.int .i64 a2_1) := (xC_ BK1.out 1).trans rfl; have uz67_2 : w258.cell? ⟨gb1, 2, none⟩ = some (.int .i64 a2_2) := (xC_ BK1.out 2).trans rfl; have uz67_3 : w258.cell? ⟨gb1, 3, none⟩ = some (.string a2_3) := (xC_ BK1.out 3).trans rfl; have uz67_4 : w258.cell? ⟨gb1, 4, none⟩ = some (.string a2_4) := (xC_ BK1.out 4).trans rfl; have fz67_0 := xF_ BK1.out 0; have fz67_1 := xF_ BK1.out 1; have fz67_2 := xF_ BK1.out 2; have fz67_3 := xF_ BK1.out 3; have fz67_4 := xF_ BK1.out 4; have hnb260 := NB2_3.out; have hnc260 := NB3_2.out; have uz68_0 : w258.cell? ⟨gb2, 0, none⟩ = some (.int .i64 t452) := (xC_ BK2.out 0).trans rfl; have uz68_1 : w258.cell? ⟨gb2, 1, none⟩ = some (.int .i64 t453) := (xC_ BK2.out 1).trans rfl; have uz68_2 : w258.cell? ⟨gb2, 2, none⟩ = some (.int .i64 t454) := (xC_ BK2.out 2).trans rfl; have uz68_3 : w258.cell? ⟨gb2, 3, none⟩ = some (.string t455) := (xC_ BK2.out 3).trans rfl; have uz68_4 : w258.cell? ⟨gb2, 4, none⟩ = some (.string t456) := (xC_ BK2.out 4).trans rfl; have fz68_0 := xF_ BK2.out 0; have fz68_1 := xF_ BK2.out 1; have fz68_2 := xF_ BK2.out 2; have fz68_3 := xF_ BK2.out 3; have fz68_4 := xF_ BK2.out 4) | (go_at_call 19; (with_reducible refine (ver_Compare.calls kj97 a2_0 a2_1 a2_2 a2_3 a2_4 t452 t453 t454 t455 t456 t489 _ A246.out).mono ?_); rintro e w262 ⟨rfl, hb⟩; have n0_ := Aside0.mk (blk_below (g := gb0) (o := .cells #[.int .i64 a0_0, .int .i64 a0_1, .int .i64 a0_2, .string a0_3, .string a0_4] 23 (0, 0)) (by (with_reducible repeat (first | apply xN_ | apply xD_ | apply xA_)); exact BK0.out) hb); have n1_ := Aside0.mk (blk_below (g := gb1) (o := .cells #[.int .i64 a2_0, .int .i64 a2_1, .int .i64 a2_2, .string a2_3, .string a2_4] 23 (0, 0)) (by (with_reducible repeat (first | apply xN_ | apply xD_ | apply xA_)); exact BK1.out) hb); have n2_ := Aside0.mk (blk_below (g := gb2) (o := .cells #[.int .i64 t452, .int .i64 t453, .int .i64 t454, .string t455, .string t456] 23 (0, 0)) (by (with_reducible repeat (first | apply xN_ | apply xD_ | apply xA_)); exact BK2.out) hb); have n3_ := Aside0.mk (blk_below (g := gb3) (o := .cells #[.int .i64 t465, .int .i64 t466, .int .i64 t467, .string t468, .string t469] 23 (0, 0)) (by (with_reducible repeat (first | apply xN_ | apply xD_ | apply xA_)); exact BK3.out) hb); have n4_ := Aside0.mk (below_step (by repeat (first | (with_reducible first | exact HB.out | apply yA_ | apply yN_ | apply yD_ | refine yS_ ?_ GE0.out | refine yS_ ?_ GE1.out | refine yS_ ?_ GE2.out | refine yS_ ?_ GE3.out) | exact HB.out)) hb); clear BK0; clear BK1; clear BK2; clear BK3; clear HB; have BK0 := n0_; have BK1 := n1_; have BK2 := n2_; have BK3 := n3_; have HB := n4_; clear n0_ n1_ n2_ n3_ n4_; (try clear hb)) | (go_at_call 10; (with_reducible refine (armadalaw07_live.calls kj97  true _ A248.out (LW0 := LW.out.below (by repeat (first | (with_reducible first | exact HB.out | apply yA_ | apply yN_ | apply yD_ | refine yS_ ?_ GE0.out | refine yS_ ?_ GE1.out | refine yS_ ?_ GE2.out | refine yS_ ?_ GE3.out) | exact HB.out)))).mono ?_); rintro e w263 ⟨rfl, hb⟩; have n0_ := Aside0.mk (blk_below (g := gb0) (o := .cells #[.int .i64 a0_0, .int .i64 a0_1, .int .i64 a0_2, .string a0_3, .string a0_4] 23 (0, 0)) (by (with_reducible repeat (first | apply xN_ | apply xD_ | apply xA_)); exact BK0.out) hb); have n1_ := Aside0.mk (blk_below (g := gb1) (o := .cells #[.int .i64 a2_0, .int .i64 a2_1, .int .i64 a2_2, .string a2_3, .string a2_4] 23 (0, 0)) (by (with_reducible repeat (first | apply xN_ | apply xD_ | apply xA_)); exact BK1.out) hb); have n2_ := Aside0.mk (blk_below (g := gb2) (o := .cells #[.int .i64 t452, .int .i64 t453, .int .i64 t454, .string t455, .string t456] 23 (0, 0)) (by (with_reducible repeat (first | apply xN_ | apply xD_ | apply xA_)); exact BK2.out) hb); have n3_ := Aside0.mk (blk_below (g := gb3) (o := .cells #[.int .i64 t465, .int .i64 t466, .int .i64 t467, .string t468, .string t469] 23 (0, 0)) (by (with_reducible repeat (first | apply xN_ | apply xD_ | apply xA_)); exact BK3.out) hb); have n4_ := Aside0.mk (below_step (by repeat (first | (with_reducible first | exact HB.out | apply yA_ | apply yN_ | apply yD_ | refine yS_ ?_ GE0.out | refine yS_ ?_ GE1.out | refine yS_ ?_ GE2.out | refine yS_ ?_ GE3.out) | exact HB.out)) hb); clear BK0; clear BK1; clear BK2; clear BK3; clear HB; have BK0 := n0_; have BK1 := n1_; have BK2 := n2_; have BK3 := n3_; have HB := n4_; clear n0_ n1_ n2_ n3_ n4_; (try clear hb)))
                   go_ret
                   exact ⟨by first | rfl | (simp [errW_none, errW_some] <;> rfl) | (simp [*, errW_none, errW_some] <;> rfl), by repeat (first | (with_reducible first | exact HB.out | apply yA_ | apply yN_ | apply yD_ | refine yS_ ?_ GE0.out | refine yS_ ?_ GE1.out | refine yS_ ?_ GE2.out | refine yS_ ?_ GE3.out) | exact HB.out)⟩
                  ·rw [if_neg c247] at H
                   have c247b0 : decide (0 ≤ t489) = false := decide_eq_false c247
                   clear c247
                   exact absurd H (by simp)
                ·rw [if_neg c231] at H
                 have c231b0 : (a2_1 == 0) = false := beq_eq_false_iff_ne.mpr c231
                 have c231b1 : (a2_1 != 0) = true := bne_iff_ne.mpr c231
                 replace H := Option.bind_eq_some_iff.mp H
                 obtain ⟨t491, A2640, H⟩ := H
                 replace H : (some t491) = some true := H
                 have A264 := Aside0.mk A2640
                 clear A2640
                 obtain rfl := Option.some.inj H
                 have hnb265 := NB1_0.out
                 have hnc265 := NB0_1.out
                 have hnb266 := NB1_2.out
                 have hnc266 := NB2_1.out
                 have hnb267 := NB1_3.out
                 have hnc267 := NB3_1.out
                 have uz69_0 : wc.cell? ⟨gb1, 0, none⟩ = some (.int .i64 a2_0) := (xC_ BK1.out 0).trans rfl
                 have uz69_1 : wc.cell? ⟨gb1, 1, none⟩ = some (.int .i64 a2_1) := (xC_ BK1.out 1).trans rfl
                 have uz69_2 : wc.cell? ⟨gb1, 2, none⟩ = some (.int .i64 a2_2) := (xC_ BK1.out 2).trans rfl
                 have uz69_3 : wc.cell? ⟨gb1, 3, none⟩ = some (.string a2_3) := (xC_ BK1.out 3).trans rfl
                 have uz69_4 : wc.cell? ⟨gb1, 4, none⟩ = some (.string a2_4) := (xC_ BK1.out 4).trans rfl
                 have fz69_0 := xF_ BK1.out 0
                 have fz69_1 := xF_ BK1.out 1
                 have fz69_2 := xF_ BK1.out 2
                 have fz69_3 := xF_ BK1.out 3
                 have fz69_4 := xF_ BK1.out 4
                 go_wp2_with (first | ((with_reducible refine gate_callee (f := 13) rfl ?_); refine goesL_ (some 114) rfl rfl Tryd.func13 (by kernel_rfl) rfl #[.agg #[.int .i64 a2_0, .int .i64 a2_1, .int .i64 a2_2, .string a2_3, .string a2_4]] rfl (by (try simp only [List.map_toArray, List.map_cons, List.map_nil]); first | done | rfl) ?_; (with_reducible refine (ver_Check.calls a2_0 a2_1 a2_2 a2_3 a2_4 true _ A119.out).mono ?_); rintro e w269 ⟨rfl, hb⟩; refine ⟨_, rfl, ?_⟩; have n0_ := Aside0.mk (blk_below (g := gb0) (o := .cells #[.int .i64 a0_0, .int .i64 a0_1, .int .i64 a0_2, .string a0_3, .string a0_4] 23 (0, 0)) (by (with_reducible repeat (first | apply xN_ | apply xD_ | apply xA_)); exact BK0.out) hb); have n1_ := Aside0.mk (blk_below (g := gb1) (o := .cells #[.int .i64 a2_0, .int .i64 a2_1, .int .i64 a2_2, .string a2_3, .string a2_4] 23 (0, 0)) (by (with_reducible repeat (first | apply xN_ | apply xD_ | apply xA_)); exact BK1.out) hb); have n2_ := Aside0.mk (blk_below (g := gb2) (o := .cells #[.int .i64 t452, .int .i64 t453, .int .i64 t454, .string t455, .string t456] 23 (0, 0)) (by (with_reducible repeat (first | apply xN_ | apply xD_ | apply xA_)); exact BK2.out) hb); have n3_ := Aside0.mk (blk_below (g := gb3) (o := .cells #[.int .i64 t465, .int .i64 t466, .int .i64 t467, .string t468, .string t469] 23 (0, 0)) (by (with_reducible repeat (first | apply xN_ | apply xD_ | apply xA_)); exact BK3.out) hb); have n4_ := Aside0.mk (below_step (by repeat (first | (with_reducible first | exact HB.out | apply yA_ | apply yN_ | apply yD_ | refine yS_ ?_ GE0.out | refine yS_ ?_ GE1.out | refine yS_ ?_ GE2.out | refine yS_ ?_ GE3.out) | exact HB.out)) hb); clear BK0; clear BK1; clear BK2; clear BK3; clear HB; have BK0 := n0_; have BK1 := n1_; have BK2 := n2_; have BK3 := n3_; have HB := n4_; clear n0_ n1_ n2_ n3_ n4_; (try clear hb); have uz70_0 : w269.cell? ⟨gb1, 0, none⟩ = some (.int .i64 a2_0) := (xC_ BK1.out 0).trans rfl; have uz70_1 : w269.cell? ⟨gb1, 1, none⟩ = some (.int .i64 a2_1) := (xC_ BK1.out 1).trans rfl; have uz70_2 : w269.cell? ⟨gb1, 2, none⟩ = some (.int .i64 a2_2) := (xC_ BK1.out 2).trans rfl; have uz70_3 : w269.cell? ⟨gb1, 3, none⟩ = some (.string a2_3) := (xC_ BK1.out 3).trans rfl; have uz70_4 : w269.cell? ⟨gb1, 4, none⟩ = some (.string a2_4) := (xC_ BK1.out 4).trans rfl; have fz70_0 := xF_ BK1.out 0; have fz70_1 := xF_ BK1.out 1; have fz70_2 := xF_ BK1.out 2; have fz70_3 := xF_ BK1.out 3; have fz70_4 := xF_ BK1.out 4) | (go_at_call 10; (with_reducible refine (armadalaw07_live.calls kj97  true _ A264.out (LW0 := LW.out.below (by repeat (first | (with_reducible first | exact HB.out | apply yA_ | apply yN_ | apply yD_ | refine yS_ ?_ GE0.out | refine yS_ ?_ GE1.out | refine yS_ ?_ GE2.out | refine yS_ ?_ GE3.out) | exact HB.out)))).mono ?_); rintro e w271 ⟨rfl, hb⟩; have n0_ := Aside0.mk (blk_below (g := gb0) (o := .cells #[.int .i64 a0_0, .int .i64 a0_1, .int .i64 a0_2, .string a0_3, .string a0_4] 23 (0, 0)) (by (with_reducible repeat (first | apply xN_ | apply xD_ | apply xA_)); exact BK0.out) hb); have n1_ := Aside0.mk (blk_below (g := gb1) (o := .cells #[.int .i64 a2_0, .int .i64 a2_1, .int .i64 a2_2, .string a2_3, .string a2_4] 23 (0, 0)) (by (with_reducible repeat (first | apply xN_ | apply xD_ | apply xA_)); exact BK1.out) hb); have n2_ := Aside0.mk (blk_below (g := gb2) (o := .cells #[.int .i64 t452, .int .i64 t453, .int .i64 t454, .string t455, .string t456] 23 (0, 0)) (by (with_reducible repeat (first | apply xN_ | apply xD_ | apply xA_)); exact BK2.out) hb); have n3_ := Aside0.mk (blk_below (g := gb3) (o := .cells #[.int .i64 t465, .int .i64 t466, .int .i64 t467, .string t468, .string t469] 23 (0, 0)) (by (with_reducible repeat (first | apply xN_ | apply xD_ | apply xA_)); exact BK3.out) hb); have n4_ := Aside0.mk (below_step (by repeat (first | (with_reducible first | exact HB.out | apply yA_ | apply yN_ | apply yD_ | refine yS_ ?_ GE0.out | refine yS_ ?_ GE1.out | refine yS_ ?_ GE2.out | refine yS_ ?_ GE3.out) | exact HB.out)) hb); clear BK0; clear BK1; clear BK2; clear BK3; clear HB; have BK0 := n0_; have BK1 := n1_; have BK2 := n2_; have BK3 := n3_; have HB := n4_; clear n0_ n1_ n2_ n3_ n4_; (try clear hb)))
                 go_ret
                 exact ⟨by first | rfl | (simp [errW_none, errW_some] <;> rfl) | (simp [*, errW_none, errW_some] <;> rfl), by repeat (first | (with_reducible first | exact HB.out | apply yA_ | apply yN_ | apply yD_ | refine yS_ ?_ GE0.out | refine yS_ ?_ GE1.out | refine yS_ ?_ GE2.out | refine yS_ ?_ GE3.out) | exact HB.out)⟩
              ·rw [if_neg c197] at H
               have c197b0 : (a2_2 == 0) = false := beq_eq_false_iff_ne.mpr c197
               have c197b1 : (a2_2 != 0) = true := bne_iff_ne.mpr c197
               replace H := Option.bind_eq_some_iff.mp H
               obtain ⟨t492, A2720, H⟩ := H
               replace H : (some t492) = some true := H
               have A272 := Aside0.mk A2720
               clear A2720
               obtain rfl := Option.some.inj H
               have hnb273 := NB1_0.out
               have hnc273 := NB0_1.out
               have hnb274 := NB1_2.out
               have hnc274 := NB2_1.out
               have hnb275 := NB1_3.out
               have hnc275 := NB3_1.out
               have uz71_0 : wc.cell? ⟨gb1, 0, none⟩ = some (.int .i64 a2_0) := (xC_ BK1.out 0).trans rfl
               have uz71_1 : wc.cell? ⟨gb1, 1, none⟩ = some (.int .i64 a2_1) := (xC_ BK1.out 1).trans rfl
               have uz71_2 : wc.cell? ⟨gb1, 2, none⟩ = some (.int .i64 a2_2) := (xC_ BK1.out 2).trans rfl
               have uz71_3 : wc.cell? ⟨gb1, 3, none⟩ = some (.string a2_3) := (xC_ BK1.out 3).trans rfl
               have uz71_4 : wc.cell? ⟨gb1, 4, none⟩ = some (.string a2_4) := (xC_ BK1.out 4).trans rfl
               have fz71_0 := xF_ BK1.out 0
               have fz71_1 := xF_ BK1.out 1
               have fz71_2 := xF_ BK1.out 2
               have fz71_3 := xF_ BK1.out 3
               have fz71_4 := xF_ BK1.out 4
               go_wp2_with (first | ((with_reducible refine gate_callee (f := 13) rfl ?_); refine goesL_ (some 114) rfl rfl Tryd.func13 (by kernel_rfl) rfl #[.agg #[.int .i64 a2_0, .int .i64 a2_1, .int .i64 a2_2, .string a2_3, .string a2_4]] rfl (by (try simp only [List.map_toArray, List.map_cons, List.map_nil]); first | done | rfl) ?_; (with_reducible refine (ver_Check.calls a2_0 a2_1 a2_2 a2_3 a2_4 true _ A119.out).mono ?_); rintro e w277 ⟨rfl, hb⟩; refine ⟨_, rfl, ?_⟩; have n0_ := Aside0.mk (blk_below (g := gb0) (o := .cells #[.int .i64 a0_0, .int .i64 a0_1, .int .i64 a0_2, .string a0_3, .string a0_4] 23 (0, 0)) (by (with_reducible repeat (first | apply xN_ | apply xD_ | apply xA_)); exact BK0.out) hb); have n1_ := Aside0.mk (blk_below (g := gb1) (o := .cells #[.int .i64 a2_0, .int .i64 a2_1, .int .i64 a2_2, .string a2_3, .string a2_4] 23 (0, 0)) (by (with_reducible repeat (first | apply xN_ | apply xD_ | apply xA_)); exact BK1.out) hb); have n2_ := Aside0.mk (blk_below (g := gb2) (o := .cells #[.int .i64 t452, .int .i64 t453, .int .i64 t454, .string t455, .string t456] 23 (0, 0)) (by (with_reducible repeat (first | apply xN_ | apply xD_ | apply xA_)); exact BK2.out) hb); have n3_ := Aside0.mk (blk_below (g := gb3) (o := .cells #[.int .i64 t465, .int .i64 t466, .int .i64 t467, .string t468, .string t469] 23 (0, 0)) (by (with_reducible repeat (first | apply xN_ | apply xD_ | apply xA_)); exact BK3.out) hb); have n4_ := Aside0.mk (below_step (by repeat (first | (with_reducible first | exact HB.out | apply yA_ | apply yN_ | apply yD_ | refine yS_ ?_ GE0.out | refine yS_ ?_ GE1.out | refine yS_ ?_ GE2.out | refine yS_ ?_ GE3.out) | exact HB.out)) hb); clear BK0; clear BK1; clear BK2; clear BK3; clear HB; have BK0 := n0_; have BK1 := n1_; have BK2 := n2_; have BK3 := n3_; have HB := n4_; clear n0_ n1_ n2_ n3_ n4_; (try clear hb); have uz72_0 : w277.cell? ⟨gb1, 0, none⟩ = some (.int .i64 a2_0) := (xC_ BK1.out 0).trans rfl; have uz72_1 : w277.cell? ⟨gb1, 1, none⟩ = some (.int .i64 a2_1) := (xC_ BK1.out 1).trans rfl; have uz72_2 : w277.cell? ⟨gb1, 2, none⟩ = some (.int .i64 a2_2) := (xC_ BK1.out 2).trans rfl; have uz72_3 : w277.cell? ⟨gb1, 3, none⟩ = some (.string a2_3) := (xC_ BK1.out 3).trans rfl; have uz72_4 : w277.cell? ⟨gb1, 4, none⟩ = some (.string a2_4) := (xC_ BK1.out 4).trans rfl; have fz72_0 := xF_ BK1.out 0; have fz72_1 := xF_ BK1.out 1; have fz72_2 := xF_ BK1.out 2; have fz72_3 := xF_ BK1.out 3; have fz72_4 := xF_ BK1.out 4) | (go_at_call 10; (with_reducible refine (armadalaw07_live.calls kj97  true _ A272.out (LW0 := LW.out.below (by repeat (first | (with_reducible first | exact HB.out | apply yA_ | apply yN_ | apply yD_ | refine yS_ ?_ GE0.out | refine yS_ ?_ GE1.out | refine yS_ ?_ GE2.out | refine yS_ ?_ GE3.out) | exact HB.out)))).mono ?_); rintro e w279 ⟨rfl, hb⟩; have n0_ := Aside0.mk (blk_below (g := gb0) (o := .cells #[.int .i64 a0_0, .int .i64 a0_1, .int .i64 a0_2, .string a0_3, .string a0_4] 23 (0, 0)) (by (with_reducible repeat (first | apply xN_ | apply xD_ | apply xA_)); exact BK0.out) hb); have n1_ := Aside0.mk (blk_below (g := gb1) (o := .cells #[.int .i64 a2_0, .int .i64 a2_1, .int .i64 a2_2, .string a2_3, .string a2_4] 23 (0, 0)) (by (with_reducible repeat (first | apply xN_ | apply xD_ | apply xA_)); exact BK1.out) hb); have n2_ := Aside0.mk (blk_below (g := gb2) (o := .cells #[.int .i64 t452, .int .i64 t453, .int .i64 t454, .string t455, .string t456] 23 (0, 0)) (by (with_reducible repeat (first | apply xN_ | apply xD_ | apply xA_)); exact BK2.out) hb); have n3_ := Aside0.mk (blk_below (g := gb3) (o := .cells #[.int .i64 t465, .int .i64 t466, .int .i64 t467, .string t468, .string t469] 23 (0, 0)) (by (with_reducible repeat (first | apply xN_ | apply xD_ | apply xA_)); exact BK3.out) hb); have n4_ := Aside0.mk (below_step (by repeat (first | (with_reducible first | exact HB.out | apply yA_ | apply yN_ | apply yD_ | refine yS_ ?_ GE0.out | refine yS_ ?_ GE1.out | refine yS_ ?_ GE2.out | refine yS_ ?_ GE3.out) | exact HB.out)) hb); clear BK0; clear BK1; clear BK2; clear BK3; clear HB; have BK0 := n0_; have BK1 := n1_; have BK2 := n2_; have BK3 := n3_; have HB := n4_; clear n0_ n1_ n2_ n3_ n4_; (try clear hb)))
               go_ret
               exact ⟨by first | rfl | (simp [errW_none, errW_some] <;> rfl) | (simp [*, errW_none, errW_some] <;> rfl), by repeat (first | (with_reducible first | exact HB.out | apply yA_ | apply yN_ | apply yD_ | refine yS_ ?_ GE0.out | refine yS_ ?_ GE1.out | refine yS_ ?_ GE2.out | refine yS_ ?_ GE3.out) | exact HB.out)⟩
            ·rw [if_neg c121] at H
             have c121b0 : (a2_3.toList == ([] : List UInt8)) = false := beq_eq_false_iff_ne.mpr c121
             have c121be : a2_3.toList.isEmpty = false := by simpa using c121b0
             (try rw [c121be])
             (try simp only [Bool.not_true, Bool.not_false])
             have c121b1 : (a2_3.toList != ([] : List UInt8)) = true := bne_iff_ne.mpr c121
             replace H := Option.bind_eq_some_iff.mp H
             obtain ⟨t493, A2800, H⟩ := H
             replace H : (some t493) = some true := H
             have A280 := Aside0.mk A2800
             clear A2800
             obtain rfl := Option.some.inj H
             have hnb281 := NB1_0.out
             have hnc281 := NB0_1.out
             have hnb282 := NB1_2.out
             have hnc282 := NB2_1.out
             have hnb283 := NB1_3.out
             have hnc283 := NB3_1.out
             have uz73_0 : wc.cell? ⟨gb1, 0, none⟩ = some (.int .i64 a2_0) := (xC_ BK1.out 0).trans rfl
             have uz73_1 : wc.cell? ⟨gb1, 1, none⟩ = some (.int .i64 a2_1) := (xC_ BK1.out 1).trans rfl
             have uz73_2 : wc.cell? ⟨gb1, 2, none⟩ = some (.int .i64 a2_2) := (xC_ BK1.out 2).trans rfl
             have uz73_3 : wc.cell? ⟨gb1, 3, none⟩ = some (.string a2_3) := (xC_ BK1.out 3).trans rfl
             have uz73_4 : wc.cell? ⟨gb1, 4, none⟩ = some (.string a2_4) := (xC_ BK1.out 4).trans rfl
             have fz73_0 := xF_ BK1.out 0
             have fz73_1 := xF_ BK1.out 1
             have fz73_2 := xF_ BK1.out 2
             have fz73_3 := xF_ BK1.out 3
             have fz73_4 := xF_ BK1.out 4
             go_wp2_with (first | ((with_reducible refine gate_callee (f := 13) rfl ?_); refine goesL_ (some 114) rfl rfl Tryd.func13 (by kernel_rfl) rfl #[.agg #[.int .i64 a2_0, .int .i64 a2_1, .int .i64 a2_2, .string a2_3, .string a2_4]] rfl (by (try simp only [List.map_toArray, List.map_cons, List.map_nil]); first | done | rfl) ?_; (with_reducible refine (ver_Check.calls a2_0 a2_1 a2_2 a2_3 a2_4 true _ A119.out).mono ?_); rintro e w285 ⟨rfl, hb⟩; refine ⟨_, rfl, ?_⟩; have n0_ := Aside0.mk (blk_below (g := gb0) (o := .cells #[.int .i64 a0_0, .int .i64 a0_1, .int .i64 a0_2, .string a0_3, .string a0_4] 23 (0, 0)) (by (with_reducible repeat (first | apply xN_ | apply xD_ | apply xA_)); exact BK0.out) hb); have n1_ := Aside0.mk (blk_below (g := gb1) (o := .cells #[.int .i64 a2_0, .int .i64 a2_1, .int .i64 a2_2, .string a2_3, .string a2_4] 23 (0, 0)) (by (with_reducible repeat (first | apply xN_ | apply xD_ | apply xA_)); exact BK1.out) hb); have n2_ := Aside0.mk (blk_below (g := gb2) (o := .cells #[.int .i64 t452, .int .i64 t453, .int .i64 t454, .string t455, .string t456] 23 (0, 0)) (by (with_reducible repeat (first | apply xN_ | apply xD_ | apply xA_)); exact BK2.out) hb); have n3_ := Aside0.mk (blk_below (g := gb3) (o := .cells #[.int .i64 t465, .int .i64 t466, .int .i64 t467, .string t468, .string t469] 23 (0, 0)) (by (with_reducible repeat (first | apply xN_ | apply xD_ | apply xA_)); exact BK3.out) hb); have n4_ := Aside0.mk (below_step (by repeat (first | (with_reducible first | exact HB.out | apply yA_ | apply yN_ | apply yD_ | refine yS_ ?_ GE0.out | refine yS_ ?_ GE1.out | refine yS_ ?_ GE2.out | refine yS_ ?_ GE3.out) | exact HB.out)) hb); clear BK0; clear BK1; clear BK2; clear BK3; clear HB; have BK0 := n0_; have BK1 := n1_; have BK2 := n2_; have BK3 := n3_; have HB := n4_; clear n0_ n1_ n2_ n3_ n4_; (try clear hb); have uz74_0 : w285.cell? ⟨gb1, 0, none⟩ = some (.int .i64 a2_0) := (xC_ BK1.out 0).trans rfl; have uz74_1 : w285.cell? ⟨gb1, 1, none⟩ = some (.int .i64 a2_1) := (xC_ BK1.out 1).trans rfl; have uz74_2 : w285.cell? ⟨gb1, 2, none⟩ = some (.int .i64 a2_2) := (xC_ BK1.out 2).trans rfl; have uz74_3 : w285.cell? ⟨gb1, 3, none⟩ = some (.string a2_3) := (xC_ BK1.out 3).trans rfl; have uz74_4 : w285.cell? ⟨gb1, 4, none⟩ = some (.string a2_4) := (xC_ BK1.out 4).trans rfl; have fz74_0 := xF_ BK1.out 0; have fz74_1 := xF_ BK1.out 1; have fz74_2 := xF_ BK1.out 2; have fz74_3 := xF_ BK1.out 3; have fz74_4 := xF_ BK1.out 4) | (go_at_call 10; (with_reducible refine (armadalaw07_live.calls kj97  true _ A280.out (LW0 := LW.out.below (by repeat (first | (with_reducible first | exact HB.out | apply yA_ | apply yN_ | apply yD_ | refine yS_ ?_ GE0.out | refine yS_ ?_ GE1.out | refine yS_ ?_ GE2.out | refine yS_ ?_ GE3.out) | exact HB.out)))).mono ?_); rintro e w287 ⟨rfl, hb⟩; have n0_ := Aside0.mk (blk_below (g := gb0) (o := .cells #[.int .i64 a0_0, .int .i64 a0_1, .int .i64 a0_2, .string a0_3, .string a0_4] 23 (0, 0)) (by (with_reducible repeat (first | apply xN_ | apply xD_ | apply xA_)); exact BK0.out) hb); have n1_ := Aside0.mk (blk_below (g := gb1) (o := .cells #[.int .i64 a2_0, .int .i64 a2_1, .int .i64 a2_2, .string a2_3, .string a2_4] 23 (0, 0)) (by (with_reducible repeat (first | apply xN_ | apply xD_ | apply xA_)); exact BK1.out) hb); have n2_ := Aside0.mk (blk_below (g := gb2) (o := .cells #[.int .i64 t452, .int .i64 t453, .int .i64 t454, .string t455, .string t456] 23 (0, 0)) (by (with_reducible repeat (first | apply xN_ | apply xD_ | apply xA_)); exact BK2.out) hb); have n3_ := Aside0.mk (blk_below (g := gb3) (o := .cells #[.int .i64 t465, .int .i64 t466, .int .i64 t467, .string t468, .string t469] 23 (0, 0)) (by (with_reducible repeat (first | apply xN_ | apply xD_ | apply xA_)); exact BK3.out) hb); have n4_ := Aside0.mk (below_step (by repeat (first | (with_reducible first | exact HB.out | apply yA_ | apply yN_ | apply yD_ | refine yS_ ?_ GE0.out | refine yS_ ?_ GE1.out | refine yS_ ?_ GE2.out | refine yS_ ?_ GE3.out) | exact HB.out)) hb); clear BK0; clear BK1; clear BK2; clear BK3; clear HB; have BK0 := n0_; have BK1 := n1_; have BK2 := n2_; have BK3 := n3_; have HB := n4_; clear n0_ n1_ n2_ n3_ n4_; (try clear hb)))
             go_ret
             exact ⟨by first | rfl | (simp [errW_none, errW_some] <;> rfl) | (simp [*, errW_none, errW_some] <;> rfl), by repeat (first | (with_reducible first | exact HB.out | apply yA_ | apply yN_ | apply yD_ | refine yS_ ?_ GE0.out | refine yS_ ?_ GE1.out | refine yS_ ?_ GE2.out | refine yS_ ?_ GE3.out) | exact HB.out)⟩
           ·replace c120 := Bool.eq_false_iff.mpr c120
            subst c120
            have H1 : ((armadalaw07_live.f kj97).bind fun t494 => (some t494)) = some true := by rw [if_neg (show ¬ (false = true) by decide)] at H; exact H
            clear H
            have H := H1
            clear H1
            replace H := Option.bind_eq_some_iff.mp H
            obtain ⟨t494, A2880, H⟩ := H
            replace H : (some t494) = some true := H
            have A288 := Aside0.mk A2880
            clear A2880
            obtain rfl := Option.some.inj H
            have hnb289 := NB1_0.out
            have hnc289 := NB0_1.out
            have hnb290 := NB1_2.out
            have hnc290 := NB2_1.out
            have hnb291 := NB1_3.out
            have hnc291 := NB3_1.out
            have uz75_0 : wc.cell? ⟨gb1, 0, none⟩ = some (.int .i64 a2_0) := (xC_ BK1.out 0).trans rfl
            have uz75_1 : wc.cell? ⟨gb1, 1, none⟩ = some (.int .i64 a2_1) := (xC_ BK1.out 1).trans rfl
            have uz75_2 : wc.cell? ⟨gb1, 2, none⟩ = some (.int .i64 a2_2) := (xC_ BK1.out 2).trans rfl
            have uz75_3 : wc.cell? ⟨gb1, 3, none⟩ = some (.string a2_3) := (xC_ BK1.out 3).trans rfl
            have uz75_4 : wc.cell? ⟨gb1, 4, none⟩ = some (.string a2_4) := (xC_ BK1.out 4).trans rfl
            have fz75_0 := xF_ BK1.out 0
            have fz75_1 := xF_ BK1.out 1
            have fz75_2 := xF_ BK1.out 2
            have fz75_3 := xF_ BK1.out 3
            have fz75_4 := xF_ BK1.out 4
            go_wp2_with (first | ((with_reducible refine gate_callee (f := 13) rfl ?_); refine goesL_ (some 114) rfl rfl Tryd.func13 (by kernel_rfl) rfl #[.agg #[.int .i64 a2_0, .int .i64 a2_1, .int .i64 a2_2, .string a2_3, .string a2_4]] rfl (by (try simp only [List.map_toArray, List.map_cons, List.map_nil]); first | done | rfl) ?_; (with_reducible refine (ver_Check.calls a2_0 a2_1 a2_2 a2_3 a2_4 false _ A119.out).mono ?_); rintro e w293 ⟨rfl, hb⟩; refine ⟨_, rfl, ?_⟩; have n0_ := Aside0.mk (blk_below (g := gb0) (o := .cells #[.int .i64 a0_0, .int .i64 a0_1, .int .i64 a0_2, .string a0_3, .string a0_4] 23 (0, 0)) (by (with_reducible repeat (first | apply xN_ | apply xD_ | apply xA_)); exact BK0.out) hb); have n1_ := Aside0.mk (blk_below (g := gb1) (o := .cells #[.int .i64 a2_0, .int .i64 a2_1, .int .i64 a2_2, .string a2_3, .string a2_4] 23 (0, 0)) (by (with_reducible repeat (first | apply xN_ | apply xD_ | apply xA_)); exact BK1.out) hb); have n2_ := Aside0.mk (blk_below (g := gb2) (o := .cells #[.int .i64 t452, .int .i64 t453, .int .i64 t454, .string t455, .string t456] 23 (0, 0)) (by (with_reducible repeat (first | apply xN_ | apply xD_ | apply xA_)); exact BK2.out) hb); have n3_ := Aside0.mk (blk_below (g := gb3) (o := .cells #[.int .i64 t465, .int .i64 t466, .int .i64 t467, .string t468, .string t469] 23 (0, 0)) (by (with_reducible repeat (first | apply xN_ | apply xD_ | apply xA_)); exact BK3.out) hb); have n4_ := Aside0.mk (below_step (by repeat (first | (with_reducible first | exact HB.out | apply yA_ | apply yN_ | apply yD_ | refine yS_ ?_ GE0.out | refine yS_ ?_ GE1.out | refine yS_ ?_ GE2.out | refine yS_ ?_ GE3.out) | exact HB.out)) hb); clear BK0; clear BK1; clear BK2; clear BK3; clear HB; have BK0 := n0_; have BK1 := n1_; have BK2 := n2_; have BK3 := n3_; have HB := n4_; clear n0_ n1_ n2_ n3_ n4_; (try clear hb)) | (go_at_call 10; (with_reducible refine (armadalaw07_live.calls kj97  true _ A288.out (LW0 := LW.out.below (by repeat (first | (with_reducible first | exact HB.out | apply yA_ | apply yN_ | apply yD_ | refine yS_ ?_ GE0.out | refine yS_ ?_ GE1.out | refine yS_ ?_ GE2.out | refine yS_ ?_ GE3.out) | exact HB.out)))).mono ?_); rintro e w294 ⟨rfl, hb⟩; have n0_ := Aside0.mk (blk_below (g := gb0) (o := .cells #[.int .i64 a0_0, .int .i64 a0_1, .int .i64 a0_2, .string a0_3, .string a0_4] 23 (0, 0)) (by (with_reducible repeat (first | apply xN_ | apply xD_ | apply xA_)); exact BK0.out) hb); have n1_ := Aside0.mk (blk_below (g := gb1) (o := .cells #[.int .i64 a2_0, .int .i64 a2_1, .int .i64 a2_2, .string a2_3, .string a2_4] 23 (0, 0)) (by (with_reducible repeat (first | apply xN_ | apply xD_ | apply xA_)); exact BK1.out) hb); have n2_ := Aside0.mk (blk_below (g := gb2) (o := .cells #[.int .i64 t452, .int .i64 t453, .int .i64 t454, .string t455, .string t456] 23 (0, 0)) (by (with_reducible repeat (first | apply xN_ | apply xD_ | apply xA_)); exact BK2.out) hb); have n3_ := Aside0.mk (blk_below (g := gb3) (o := .cells #[.int .i64 t465, .int .i64 t466, .int .i64 t467, .string t468, .string t469] 23 (0, 0)) (by (with_reducible repeat (first | apply xN_ | apply xD_ | apply xA_)); exact BK3.out) hb); have n4_ := Aside0.mk (below_step (by repeat (first | (with_reducible first | exact HB.out | apply yA_ | apply yN_ | apply yD_ | refine yS_ ?_ GE0.out | refine yS_ ?_ GE1.out | refine yS_ ?_ GE2.out | refine yS_ ?_ GE3.out) | exact HB.out)) hb); clear BK0; clear BK1; clear BK2; clear BK3; clear HB; have BK0 := n0_; have BK1 := n1_; have BK2 := n2_; have BK3 := n3_; have HB := n4_; clear n0_ n1_ n2_ n3_ n4_; (try clear hb)))
            go_ret
            exact ⟨by first | rfl | (simp [errW_none, errW_some] <;> rfl) | (simp [*, errW_none, errW_some] <;> rfl), by repeat (first | (with_reducible first | exact HB.out | apply yA_ | apply yN_ | apply yD_ | refine yS_ ?_ GE0.out | refine yS_ ?_ GE1.out | refine yS_ ?_ GE2.out | refine yS_ ?_ GE3.out) | exact HB.out)⟩
    ·rw [if_neg c24] at H
     have c24b0 : (t457 == 0) = false := beq_eq_false_iff_ne.mpr c24
     have c24b1 : (t457 != 0) = true := bne_iff_ne.mpr c24
     by_cases c295 : (t452 == 0 && (t453 == 0 && (t454 == 0 && (t455.toList == ([] : List UInt8) && (t456.toList == ([] : List UInt8)))))) = true
     ·rw [if_pos c295] at H
      have c295b0 : (t452 == 0 && (t453 == 0 && (t454 == 0 && (t455.toList == ([] : List UInt8) && (t456.toList == ([] : List UInt8)))))) = true := c295
      (try (have c295b1 : decide (t452 = 0 && (t453 == 0 && (t454 == 0 && (t455.toList == ([] : List UInt8) && (t456.toList == ([] : List UInt8)))))) = true := by simpa using c295))
      (try (have c295b2 : (t452 == 0 && (t453 == 0 && (t454 == 0 && (t455.toList == ([] : List UInt8) && (t456.toList == ([] : List UInt8)))))) = true := by simpa using c295))
      clear c295
      have isub_c295 : t452 = 0 ∧ t453 = 0 ∧ t454 = 0 ∧ (t455.toList == ([] : List UInt8)) = true ∧ (t456.toList == ([] : List UInt8)) = true := by simpa only [Bool.and_eq_true, beq_iff_eq] using c295b0
      obtain ⟨rfl, rfl, rfl, s0_c295, s1_c295⟩ := isub_c295
      clear c295b0; (try clear c295b1); (try clear c295b2)
      by_cases c296 : t457 = 15
      ·rw [if_pos c296] at H
       have c296b0 : (t457 == 15) = true := beq_iff_eq.mpr c296
       have c296b1 : (t457 != 15) = false := bne_eq_false_iff_eq.mpr c296
       clear c296
       replace H := Option.bind_eq_some_iff.mp H
       obtain ⟨t459, A2970, H⟩ := H
       replace H : (some t459) = some true := H
       have A297 := Aside0.mk A2970
       clear A2970
       obtain rfl := Option.some.inj H
       have hnb298 := NB0_1.out
       have hnc298 := NB1_0.out
       have uz76_0 : wc.cell? ⟨gb0, 0, none⟩ = some (.int .i64 a0_0) := (xC_ BK0.out 0).trans rfl
       have uz76_1 : wc.cell? ⟨gb0, 1, none⟩ = some (.int .i64 a0_1) := (xC_ BK0.out 1).trans rfl
       have uz76_2 : wc.cell? ⟨gb0, 2, none⟩ = some (.int .i64 a0_2) := (xC_ BK0.out 2).trans rfl
       have uz76_3 : wc.cell? ⟨gb0, 3, none⟩ = some (.string a0_3) := (xC_ BK0.out 3).trans rfl
       have uz76_4 : wc.cell? ⟨gb0, 4, none⟩ = some (.string a0_4) := (xC_ BK0.out 4).trans rfl
       have fz76_0 := xF_ BK0.out 0
       have fz76_1 := xF_ BK0.out 1
       have fz76_2 := xF_ BK0.out 2
       have fz76_3 := xF_ BK0.out 3
       have fz76_4 := xF_ BK0.out 4
       go_wp2_with (first | ((with_reducible refine gate_callee (f := 17) rfl ?_); refine goesL_ (some 38) rfl rfl Tryd.func17 (by kernel_rfl) rfl #[.agg #[.int .i64 a0_0, .int .i64 a0_1, .int .i64 a0_2, .string a0_3, .string a0_4], .int .i64 a1] rfl (by (try simp only [List.map_toArray, List.map_cons, List.map_nil]); first | done | rfl) ?_; (with_reducible refine (ver_Bump.calls a0_0 a0_1 a0_2 a0_3 a0_4 a1 0 0 0 t455 t456 t457 _ A23.out).mono ?_); rintro e w300 ⟨rfl, hb⟩; refine ⟨_, rfl, ?_⟩; have n0_ := Aside0.mk (blk_below (g := gb0) (o := .cells #[.int .i64 a0_0, .int .i64 a0_1, .int .i64 a0_2, .string a0_3, .string a0_4] 23 (0, 0)) (by (with_reducible repeat (first | apply xN_ | apply xD_ | apply xA_)); exact BK0.out) hb); have n1_ := Aside0.mk (blk_below (g := gb1) (o := .cells #[.int .i64 a2_0, .int .i64 a2_1, .int .i64 a2_2, .string a2_3, .string a2_4] 23 (0, 0)) (by (with_reducible repeat (first | apply xN_ | apply xD_ | apply xA_)); exact BK1.out) hb); have n2_ := Aside0.mk (below_step (by repeat (first | (with_reducible first | exact HB.out | apply yA_ | apply yN_ | apply yD_ | refine yS_ ?_ GE0.out | refine yS_ ?_ GE1.out) | exact HB.out)) hb); clear BK0; clear BK1; clear HB; have BK0 := n0_; have BK1 := n1_; have HB := n2_; clear n0_ n1_ n2_; (try clear hb)) | ((with_reducible refine gate_dst (N := 7) rfl ?_); (try (refine gate_guard (by rfl) ?_; dsimp only)); refine box_event ?hg (N := 7) ?hd (cs := #[.int .i64 0, .int .i64 0, .int .i64 0, .string (⟨#[]⟩ : ByteArray), .string (⟨#[]⟩ : ByteArray)]) (t := 23) ?hr ?_; (case hd => rfl); (case hg => rfl); (case hr => first | (go_simp; done) | (go_simp; rfl)); intro gb2 hg w301 hbox hb; have n0_ := Aside0.mk (blk_below (g := gb0) (o := .cells #[.int .i64 a0_0, .int .i64 a0_1, .int .i64 a0_2, .string a0_3, .string a0_4] 23 (0, 0)) (by (with_reducible repeat (first | apply xN_ | apply xD_ | apply xA_)); exact BK0.out) hb); have n1_ := Aside0.mk (blk_below (g := gb1) (o := .cells #[.int .i64 a2_0, .int .i64 a2_1, .int .i64 a2_2, .string a2_3, .string a2_4] 23 (0, 0)) (by (with_reducible repeat (first | apply xN_ | apply xD_ | apply xA_)); exact BK1.out) hb); have n2_ := Aside0.mk (below_step (by repeat (first | (with_reducible first | exact HB.out | apply yA_ | apply yN_ | apply yD_ | refine yS_ ?_ GE0.out | refine yS_ ?_ GE1.out) | exact HB.out)) hb); have n3_ := Aside0.mk (hbox); have n4_ := Aside0.mk ((by rw [hg]; exact (below_size (by repeat (first | (with_reducible first | exact HB.out | apply yA_ | apply yN_ | apply yD_ | refine yS_ ?_ GE0.out | refine yS_ ?_ GE1.out) | exact HB.out))) : w.heap.size ≤ gb2)); have n5_ := Aside0.mk ((by rw [hg]; exact (below_size (by repeat (first | (with_reducible first | exact HB.out | apply yA_ | apply yN_ | apply yD_ | refine yS_ ?_ GE0.out | refine yS_ ?_ GE1.out) | exact HB.out))) : w.heap.size ≤ gb2)); have n6_ := Aside0.mk ((by rw [hg]; exact Nat.ne_of_lt (blk_lt (g := gb0) (o := .cells #[.int .i64 a0_0, .int .i64 a0_1, .int .i64 a0_2, .string a0_3, .string a0_4] 23 (0, 0)) (by (with_reducible repeat (first | apply xN_ | apply xD_ | apply xA_)); exact BK0.out)) : gb0 ≠ gb2)); have n7_ := Aside0.mk ((by rw [hg]; exact Nat.ne_of_gt (blk_lt (g := gb0) (o := .cells #[.int .i64 a0_0, .int .i64 a0_1, .int .i64 a0_2, .string a0_3, .string a0_4] 23 (0, 0)) (by (with_reducible repeat (first | apply xN_ | apply xD_ | apply xA_)); exact BK0.out)) : gb2 ≠ gb0)); have n8_ := Aside0.mk ((by rw [hg]; exact Nat.ne_of_lt (blk_lt (g := gb1) (o := .cells #[.int .i64 a2_0, .int .i64 a2_1, .int .i64 a2_2, .string a2_3, .string a2_4] 23 (0, 0)) (by (with_reducible repeat (first | apply xN_ | apply xD_ | apply xA_)); exact BK1.out)) : gb1 ≠ gb2)); have n9_ := Aside0.mk ((by rw [hg]; exact Nat.ne_of_gt (blk_lt (g := gb1) (o := .cells #[.int .i64 a2_0, .int .i64 a2_1, .int .i64 a2_2, .string a2_3, .string a2_4] 23 (0, 0)) (by (with_reducible repeat (first | apply xN_ | apply xD_ | apply xA_)); exact BK1.out)) : gb2 ≠ gb1)); clear BK0; clear BK1; clear HB; have BK0 := n0_; have BK1 := n1_; have HB := n2_; have BK2 := n3_; have GW2 := n4_; have GE2 := n5_; have NB0_2 := n6_; have NB2_0 := n7_; have NB1_2 := n8_; have NB2_1 := n9_; clear n0_ n1_ n2_ n3_ n4_ n5_ n6_ n7_ n8_ n9_; clear hb hbox hg; have hnb302 := NB2_0.out; have hnc302 := NB0_2.out; have hnb303 := NB2_1.out; have hnc303 := NB1_2.out; have uz77_0 : w301.cell? ⟨gb2, 0, none⟩ = some (.int .i64 0) := (xC_ BK2.out 0).trans rfl; have uz77_1 : w301.cell? ⟨gb2, 1, none⟩ = some (.int .i64 0) := (xC_ BK2.out 1).trans rfl; have uz77_2 : w301.cell? ⟨gb2, 2, none⟩ = some (.int .i64 0) := (xC_ BK2.out 2).trans rfl; have uz77_3 : w301.cell? ⟨gb2, 3, none⟩ = some (.string (⟨#[]⟩ : ByteArray)) := (xC_ BK2.out 3).trans rfl; have uz77_4 : w301.cell? ⟨gb2, 4, none⟩ = some (.string (⟨#[]⟩ : ByteArray)) := (xC_ BK2.out 4).trans rfl; have fz77_0 := xF_ BK2.out 0; have fz77_1 := xF_ BK2.out 1; have fz77_2 := xF_ BK2.out 2; have fz77_3 := xF_ BK2.out 3; have fz77_4 := xF_ BK2.out 4) | (go_at_call 10; (with_reducible refine (armadalaw07_live.calls kj3  true _ A297.out (LW0 := LW.out.below (by repeat (first | (with_reducible first | exact HB.out | apply yA_ | apply yN_ | apply yD_ | refine yS_ ?_ GE0.out | refine yS_ ?_ GE1.out | refine yS_ ?_ GE2.out) | exact HB.out)))).mono ?_); rintro e w305 ⟨rfl, hb⟩; have n0_ := Aside0.mk (blk_below (g := gb0) (o := .cells #[.int .i64 a0_0, .int .i64 a0_1, .int .i64 a0_2, .string a0_3, .string a0_4] 23 (0, 0)) (by (with_reducible repeat (first | apply xN_ | apply xD_ | apply xA_)); refine xR_ ?_ NB0_2.out _; refine xR_ ?_ NB0_2.out _; refine xR_ ?_ NB0_2.out _; refine xR_ ?_ NB0_2.out _; refine xR_ ?_ NB0_2.out _; (with_reducible repeat (first | apply xN_ | apply xD_ | apply xA_)); exact BK0.out) hb); have n1_ := Aside0.mk (blk_below (g := gb1) (o := .cells #[.int .i64 a2_0, .int .i64 a2_1, .int .i64 a2_2, .string a2_3, .string a2_4] 23 (0, 0)) (by (with_reducible repeat (first | apply xN_ | apply xD_ | apply xA_)); refine xR_ ?_ NB1_2.out _; refine xR_ ?_ NB1_2.out _; refine xR_ ?_ NB1_2.out _; refine xR_ ?_ NB1_2.out _; refine xR_ ?_ NB1_2.out _; (with_reducible repeat (first | apply xN_ | apply xD_ | apply xA_)); exact BK1.out) hb); have n2_ := Aside0.mk (blk_below (g := gb2) (o := .cells #[.int .i64 0, .int .i64 0, .int .i64 0, .string t455, .string t456] 23 (0, 0)) (by (with_reducible repeat (first | apply xN_ | apply xD_ | apply xA_)); refine blk_put (cs := #[.int .i64 0, .int .i64 0, .int .i64 0, .string t455, .string (⟨#[]⟩ : ByteArray)]) ?_ 4 _ rfl; refine blk_put (cs := #[.int .i64 0, .int .i64 0, .int .i64 0, .string (⟨#[]⟩ : ByteArray), .string (⟨#[]⟩ : ByteArray)]) ?_ 3 _ rfl; refine blk_put (cs := #[.int .i64 0, .int .i64 0, .int .i64 0, .string (⟨#[]⟩ : ByteArray), .string (⟨#[]⟩ : ByteArray)]) ?_ 2 _ rfl; refine blk_put (cs := #[.int .i64 0, .int .i64 0, .int .i64 0, .string (⟨#[]⟩ : ByteArray), .string (⟨#[]⟩ : ByteArray)]) ?_ 1 _ rfl; refine blk_put (cs := #[.int .i64 0, .int .i64 0, .int .i64 0, .string (⟨#[]⟩ : ByteArray), .string (⟨#[]⟩ : ByteArray)]) ?_ 0 _ rfl; (with_reducible repeat (first | apply xN_ | apply xD_ | apply xA_)); exact BK2.out) hb); have n3_ := Aside0.mk (below_step (by repeat (first | (with_reducible first | exact HB.out | apply yA_ | apply yN_ | apply yD_ | refine yS_ ?_ GE0.out | refine yS_ ?_ GE1.out | refine yS_ ?_ GE2.out) | exact HB.out)) hb); clear BK0; clear BK1; clear BK2; clear HB; have BK0 := n0_; have BK1 := n1_; have BK2 := n2_; have HB := n3_; clear n0_ n1_ n2_ n3_; (try clear hb)))
       go_ret
       exact ⟨by first | rfl | (simp [errW_none, errW_some] <;> rfl) | (simp [*, errW_none, errW_some] <;> rfl), by repeat (first | (with_reducible first | exact HB.out | apply yA_ | apply yN_ | apply yD_ | refine yS_ ?_ GE0.out | refine yS_ ?_ GE1.out | refine yS_ ?_ GE2.out) | exact HB.out)⟩
      ·rw [if_neg c296] at H
       have c296b0 : (t457 == 15) = false := beq_eq_false_iff_ne.mpr c296
       have c296b1 : (t457 != 15) = true := bne_iff_ne.mpr c296
       replace H := Option.bind_eq_some_iff.mp H
       obtain ⟨t460, A3060, H⟩ := H
       replace H : (if t460 = true then (if a1 < 1 then ((armadalaw07_live.f kj3).bind fun t461 => (some t461)) else (if a1 > 3 then ((armadalaw07_live.f kj3).bind fun t462 => (some t462)) else (some false))) else ((armadalaw07_live.f kj3).bind fun t463 => (some t463))) = some true := H
       have A306 := Aside0.mk A3060
       clear A3060
       by_cases c307 : t460 = true
       ·subst c307
        have H1 : (if a1 < 1 then ((armadalaw07_live.f kj3).bind fun t461 => (some t461)) else (if a1 > 3 then ((armadalaw07_live.f kj3).bind fun t462 => (some t462)) else (some false))) = some true := by rw [if_pos rfl] at H; exact H
        clear H
        have H := H1
        clear H1
        by_cases c308 : a1 < 1
        ·rw [if_pos c308] at H
         have c308b0 : decide (a1 < 1) = true := decide_eq_true c308
         clear c308
         replace H := Option.bind_eq_some_iff.mp H
         obtain ⟨t461, A3090, H⟩ := H
         replace H : (some t461) = some true := H
         have A309 := Aside0.mk A3090
         clear A3090
         obtain rfl := Option.some.inj H
         have hnb310 := NB0_1.out
         have hnc310 := NB1_0.out
         have uz78_0 : wc.cell? ⟨gb0, 0, none⟩ = some (.int .i64 a0_0) := (xC_ BK0.out 0).trans rfl
         have uz78_1 : wc.cell? ⟨gb0, 1, none⟩ = some (.int .i64 a0_1) := (xC_ BK0.out 1).trans rfl
         have uz78_2 : wc.cell? ⟨gb0, 2, none⟩ = some (.int .i64 a0_2) := (xC_ BK0.out 2).trans rfl
         have uz78_3 : wc.cell? ⟨gb0, 3, none⟩ = some (.string a0_3) := (xC_ BK0.out 3).trans rfl
         have uz78_4 : wc.cell? ⟨gb0, 4, none⟩ = some (.string a0_4) := (xC_ BK0.out 4).trans rfl
         have fz78_0 := xF_ BK0.out 0
         have fz78_1 := xF_ BK0.out 1
         have fz78_2 := xF_ BK0.out 2
         have fz78_3 := xF_ BK0.out 3
         have fz78_4 := xF_ BK0.out 4
         go_wp2_with (first | ((with_reducible refine gate_callee (f := 17) rfl ?_); refine goesL_ (some 38) rfl rfl Tryd.func17 (by kernel_rfl) rfl #[.agg #[.int .i64 a0_0, .int .i64 a0_1, .int .i64 a0_2, .string a0_3, .string a0_4], .int .i64 a1] rfl (by (try simp only [List.map_toArray, List.map_cons, List.map_nil]); first | done | rfl) ?_; (with_reducible refine (ver_Bump.calls a0_0 a0_1 a0_2 a0_3 a0_4 a1 0 0 0 t455 t456 t457 _ A23.out).mono ?_); rintro e w312 ⟨rfl, hb⟩; refine ⟨_, rfl, ?_⟩; have n0_ := Aside0.mk (blk_below (g := gb0) (o := .cells #[.int .i64 a0_0, .int .i64 a0_1, .int .i64 a0_2, .string a0_3, .string a0_4] 23 (0, 0)) (by (with_reducible repeat (first | apply xN_ | apply xD_ | apply xA_)); exact BK0.out) hb); have n1_ := Aside0.mk (blk_below (g := gb1) (o := .cells #[.int .i64 a2_0, .int .i64 a2_1, .int .i64 a2_2, .string a2_3, .string a2_4] 23 (0, 0)) (by (with_reducible repeat (first | apply xN_ | apply xD_ | apply xA_)); exact BK1.out) hb); have n2_ := Aside0.mk (below_step (by repeat (first | (with_reducible first | exact HB.out | apply yA_ | apply yN_ | apply yD_ | refine yS_ ?_ GE0.out | refine yS_ ?_ GE1.out) | exact HB.out)) hb); clear BK0; clear BK1; clear HB; have BK0 := n0_; have BK1 := n1_; have HB := n2_; clear n0_ n1_ n2_; (try clear hb)) | ((with_reducible refine gate_dst (N := 7) rfl ?_); (try (refine gate_guard (by rfl) ?_; dsimp only)); refine box_event ?hg (N := 7) ?hd (cs := #[.int .i64 0, .int .i64 0, .int .i64 0, .string (⟨#[]⟩ : ByteArray), .string (⟨#[]⟩ : ByteArray)]) (t := 23) ?hr ?_; (case hd => rfl); (case hg => rfl); (case hr => first | (go_simp; done) | (go_simp; rfl)); intro gb2 hg w313 hbox hb; have n0_ := Aside0.mk (blk_below (g := gb0) (o := .cells #[.int .i64 a0_0, .int .i64 a0_1, .int .i64 a0_2, .string a0_3, .string a0_4] 23 (0, 0)) (by (with_reducible repeat (first | apply xN_ | apply xD_ | apply xA_)); exact BK0.out) hb); have n1_ := Aside0.mk (blk_below (g := gb1) (o := .cells #[.int .i64 a2_0, .int .i64 a2_1, .int .i64 a2_2, .string a2_3, .string a2_4] 23 (0, 0)) (by (with_reducible repeat (first | apply xN_ | apply xD_ | apply xA_)); exact BK1.out) hb); have n2_ := Aside0.mk (below_step (by repeat (first | (with_reducible first | exact HB.out | apply yA_ | apply yN_ | apply yD_ | refine yS_ ?_ GE0.out | refine yS_ ?_ GE1.out) | exact HB.out)) hb); have n3_ := Aside0.mk (hbox); have n4_ := Aside0.mk ((by rw [hg]; exact (below_size (by repeat (first | (with_reducible first | exact HB.out | apply yA_ | apply yN_ | apply yD_ | refine yS_ ?_ GE0.out | refine yS_ ?_ GE1.out) | exact HB.out))) : w.heap.size ≤ gb2)); have n5_ := Aside0.mk ((by rw [hg]; exact (below_size (by repeat (first | (with_reducible first | exact HB.out | apply yA_ | apply yN_ | apply yD_ | refine yS_ ?_ GE0.out | refine yS_ ?_ GE1.out) | exact HB.out))) : w.heap.size ≤ gb2)); have n6_ := Aside0.mk ((by rw [hg]; exact Nat.ne_of_lt (blk_lt (g := gb0) (o := .cells #[.int .i64 a0_0, .int .i64 a0_1, .int .i64 a0_2, .string a0_3, .string a0_4] 23 (0, 0)) (by (with_reducible repeat (first | apply xN_ | apply xD_ | apply xA_)); exact BK0.out)) : gb0 ≠ gb2)); have n7_ := Aside0.mk ((by rw [hg]; exact Nat.ne_of_gt (blk_lt (g := gb0) (o := .cells #[.int .i64 a0_0, .int .i64 a0_1, .int .i64 a0_2, .string a0_3, .string a0_4] 23 (0, 0)) (by (with_reducible repeat (first | apply xN_ | apply xD_ | apply xA_)); exact BK0.out)) : gb2 ≠ gb0)); have n8_ := Aside0.mk ((by rw [hg]; exact Nat.ne_of_lt (blk_lt (g := gb1) (o := .cells #[.int .i64 a2_0, .int .i64 a2_1, .int .i64 a2_2, .string a2_3, .string a2_4] 23 (0, 0)) (by (with_reducible repeat (first | apply xN_ | apply xD_ | apply xA_)); exact BK1.out)) : gb1 ≠ gb2)); have n9_ := Aside0.mk ((by rw [hg]; exact Nat.ne_of_gt (blk_lt (g := gb1) (o := .cells #[.int .i64 a2_0, .int .i64 a2_1, .int .i64 a2_2, .string a2_3, .string a2_4] 23 (0, 0)) (by (with_reducible repeat (first | apply xN_ | apply xD_ | apply xA_)); exact BK1.out)) : gb2 ≠ gb1)); clear BK0; clear BK1; clear HB; have BK0 := n0_; have BK1 := n1_; have HB := n2_; have BK2 := n3_; have GW2 := n4_; have GE2 := n5_; have NB0_2 := n6_; have NB2_0 := n7_; have NB1_2 := n8_; have NB2_1 := n9_; clear n0_ n1_ n2_ n3_ n4_ n5_ n6_ n7_ n8_ n9_; clear hb hbox hg; have hnb314 := NB2_0.out; have hnc314 := NB0_2.out; have hnb315 := NB2_1.out; have hnc315 := NB1_2.out; have uz79_0 : w313.cell? ⟨gb2, 0, none⟩ = some (.int .i64 0) := (xC_ BK2.out 0).trans rfl; have uz79_1 : w313.cell? ⟨gb2, 1, none⟩ = some (.int .i64 0) := (xC_ BK2.out 1).trans rfl; have uz79_2 : w313.cell? ⟨gb2, 2, none⟩ = some (.int .i64 0) := (xC_ BK2.out 2).trans rfl; have uz79_3 : w313.cell? ⟨gb2, 3, none⟩ = some (.string (⟨#[]⟩ : ByteArray)) := (xC_ BK2.out 3).trans rfl; have uz79_4 : w313.cell? ⟨gb2, 4, none⟩ = some (.string (⟨#[]⟩ : ByteArray)) := (xC_ BK2.out 4).trans rfl; have fz79_0 := xF_ BK2.out 0; have fz79_1 := xF_ BK2.out 1; have fz79_2 := xF_ BK2.out 2; have fz79_3 := xF_ BK2.out 3; have fz79_4 := xF_ BK2.out 4; have uz80_0 : w313.cell? ⟨gb0, 0, none⟩ = some (.int .i64 a0_0) := (xC_ BK0.out 0).trans rfl; have uz80_1 : w313.cell? ⟨gb0, 1, none⟩ = some (.int .i64 a0_1) := (xC_ BK0.out 1).trans rfl; have uz80_2 : w313.cell? ⟨gb0, 2, none⟩ = some (.int .i64 a0_2) := (xC_ BK0.out 2).trans rfl; have uz80_3 : w313.cell? ⟨gb0, 3, none⟩ = some (.string a0_3) := (xC_ BK0.out 3).trans rfl; have uz80_4 : w313.cell? ⟨gb0, 4, none⟩ = some (.string a0_4) := (xC_ BK0.out 4).trans rfl; have fz80_0 := xF_ BK0.out 0; have fz80_1 := xF_ BK0.out 1; have fz80_2 := xF_ BK0.out 2; have fz80_3 := xF_ BK0.out 3; have fz80_4 := xF_ BK0.out 4) | (go_at_call 13; (with_reducible refine (ver_Check.calls a0_0 a0_1 a0_2 a0_3 a0_4 true _ A306.out).mono ?_); rintro e w318 ⟨rfl, hb⟩; have n0_ := Aside0.mk (blk_below (g := gb0) (o := .cells #[.int .i64 a0_0, .int .i64 a0_1, .int .i64 a0_2, .string a0_3, .string a0_4] 23 (0, 0)) (by (with_reducible repeat (first | apply xN_ | apply xD_ | apply xA_)); refine xR_ ?_ NB0_2.out _; refine xR_ ?_ NB0_2.out _; refine xR_ ?_ NB0_2.out _; refine xR_ ?_ NB0_2.out _; refine xR_ ?_ NB0_2.out _; (with_reducible repeat (first | apply xN_ | apply xD_ | apply xA_)); exact BK0.out) hb); have n1_ := Aside0.mk (blk_below (g := gb1) (o := .cells #[.int .i64 a2_0, .int .i64 a2_1, .int .i64 a2_2, .string a2_3, .string a2_4] 23 (0, 0)) (by (with_reducible repeat (first | apply xN_ | apply xD_ | apply xA_)); refine xR_ ?_ NB1_2.out _; refine xR_ ?_ NB1_2.out _; refine xR_ ?_ NB1_2.out _; refine xR_ ?_ NB1_2.out _; refine xR_ ?_ NB1_2.out _; (with_reducible repeat (first | apply xN_ | apply xD_ | apply xA_)); exact BK1.out) hb); have n2_ := Aside0.mk (blk_below (g := gb2) (o := .cells #[.int .i64 0, .int .i64 0, .int .i64 0, .string t455, .string t456] 23 (0, 0)) (by (with_reducible repeat (first | apply xN_ | apply xD_ | apply xA_)); refine blk_put (cs := #[.int .i64 0, .int .i64 0, .int .i64 0, .string t455, .string (⟨#[]⟩ : ByteArray)]) ?_ 4 _ rfl; refine blk_put (cs := #[.int .i64 0, .int .i64 0, .int .i64 0, .string (⟨#[]⟩ : ByteArray), .string (⟨#[]⟩ : ByteArray)]) ?_ 3 _ rfl; refine blk_put (cs := #[.int .i64 0, .int .i64 0, .int .i64 0, .string (⟨#[]⟩ : ByteArray), .string (⟨#[]⟩ : ByteArray)]) ?_ 2 _ rfl; refine blk_put (cs := #[.int .i64 0, .int .i64 0, .int .i64 0, .string (⟨#[]⟩ : ByteArray), .string (⟨#[]⟩ : ByteArray)]) ?_ 1 _ rfl; refine blk_put (cs := #[.int .i64 0, .int .i64 0, .int .i64 0, .string (⟨#[]⟩ : ByteArray), .string (⟨#[]⟩ : ByteArray)]) ?_ 0 _ rfl; (with_reducible repeat (first | apply xN_ | apply xD_ | apply xA_)); exact BK2.out) hb); have n3_ := Aside0.mk (below_step (by repeat (first | (with_reducible first | exact HB.out | apply yA_ | apply yN_ | apply yD_ | refine yS_ ?_ GE0.out | refine yS_ ?_ GE1.out | refine yS_ ?_ GE2.out) | exact HB.out)) hb); clear BK0; clear BK1; clear BK2; clear HB; have BK0 := n0_; have BK1 := n1_; have BK2 := n2_; have HB := n3_; clear n0_ n1_ n2_ n3_; (try clear hb)) | (go_at_call 10; (with_reducible refine (armadalaw07_live.calls kj3  true _ A309.out (LW0 := LW.out.below (by repeat (first | (with_reducible first | exact HB.out | apply yA_ | apply yN_ | apply yD_ | refine yS_ ?_ GE0.out | refine yS_ ?_ GE1.out | refine yS_ ?_ GE2.out) | exact HB.out)))).mono ?_); rintro e w319 ⟨rfl, hb⟩; have n0_ := Aside0.mk (blk_below (g := gb0) (o := .cells #[.int .i64 a0_0, .int .i64 a0_1, .int .i64 a0_2, .string a0_3, .string a0_4] 23 (0, 0)) (by (with_reducible repeat (first | apply xN_ | apply xD_ | apply xA_)); exact BK0.out) hb); have n1_ := Aside0.mk (blk_below (g := gb1) (o := .cells #[.int .i64 a2_0, .int .i64 a2_1, .int .i64 a2_2, .string a2_3, .string a2_4] 23 (0, 0)) (by (with_reducible repeat (first | apply xN_ | apply xD_ | apply xA_)); exact BK1.out) hb); have n2_ := Aside0.mk (blk_below (g := gb2) (o := .cells #[.int .i64 0, .int .i64 0, .int .i64 0, .string t455, .string t456] 23 (0, 0)) (by (with_reducible repeat (first | apply xN_ | apply xD_ | apply xA_)); exact BK2.out) hb); have n3_ := Aside0.mk (below_step (by repeat (first | (with_reducible first | exact HB.out | apply yA_ | apply yN_ | apply yD_ | refine yS_ ?_ GE0.out | refine yS_ ?_ GE1.out | refine yS_ ?_ GE2.out) | exact HB.out)) hb); clear BK0; clear BK1; clear BK2; clear HB; have BK0 := n0_; have BK1 := n1_; have BK2 := n2_; have HB := n3_; clear n0_ n1_ n2_ n3_; (try clear hb)))
         go_ret
         exact ⟨by first | rfl | (simp [errW_none, errW_some] <;> rfl) | (simp [*, errW_none, errW_some] <;> rfl), by repeat (first | (with_reducible first | exact HB.out | apply yA_ | apply yN_ | apply yD_ | refine yS_ ?_ GE0.out | refine yS_ ?_ GE1.out | refine yS_ ?_ GE2.out) | exact HB.out)⟩
        ·rw [if_neg c308] at H
         have c308b0 : decide (a1 < 1) = false := decide_eq_false c308
         clear c308
         by_cases c320 : a1 > 3
         ·rw [if_pos c320] at H
          have c320b0 : decide (3 < a1) = true := decide_eq_true c320
          clear c320
          replace H := Option.bind_eq_some_iff.mp H
          obtain ⟨t462, A3210, H⟩ := H
          replace H : (some t462) = some true := H
          have A321 := Aside0.mk A3210
          clear A3210
          obtain rfl := Option.some.inj H
          have hnb322 := NB0_1.out
          have hnc322 := NB1_0.out
          have uz81_0 : wc.cell? ⟨gb0, 0, none⟩ = some (.int .i64 a0_0) := (xC_ BK0.out 0).trans rfl
          have uz81_1 : wc.cell? ⟨gb0, 1, none⟩ = some (.int .i64 a0_1) := (xC_ BK0.out 1).trans rfl
          have uz81_2 : wc.cell? ⟨gb0, 2, none⟩ = some (.int .i64 a0_2) := (xC_ BK0.out 2).trans rfl
          have uz81_3 : wc.cell? ⟨gb0, 3, none⟩ = some (.string a0_3) := (xC_ BK0.out 3).trans rfl
          have uz81_4 : wc.cell? ⟨gb0, 4, none⟩ = some (.string a0_4) := (xC_ BK0.out 4).trans rfl
          have fz81_0 := xF_ BK0.out 0
          have fz81_1 := xF_ BK0.out 1
          have fz81_2 := xF_ BK0.out 2
          have fz81_3 := xF_ BK0.out 3
          have fz81_4 := xF_ BK0.out 4
          go_wp2_with (first | ((with_reducible refine gate_callee (f := 17) rfl ?_); refine goesL_ (some 38) rfl rfl Tryd.func17 (by kernel_rfl) rfl #[.agg #[.int .i64 a0_0, .int .i64 a0_1, .int .i64 a0_2, .string a0_3, .string a0_4], .int .i64 a1] rfl (by (try simp only [List.map_toArray, List.map_cons, List.map_nil]); first | done | rfl) ?_; (with_reducible refine (ver_Bump.calls a0_0 a0_1 a0_2 a0_3 a0_4 a1 0 0 0 t455 t456 t457 _ A23.out).mono ?_); rintro e w324 ⟨rfl, hb⟩; refine ⟨_, rfl, ?_⟩; have n0_ := Aside0.mk (blk_below (g := gb0) (o := .cells #[.int .i64 a0_0, .int .i64 a0_1, .int .i64 a0_2, .string a0_3, .string a0_4] 23 (0, 0)) (by (with_reducible repeat (first | apply xN_ | apply xD_ | apply xA_)); exact BK0.out) hb); have n1_ := Aside0.mk (blk_below (g := gb1) (o := .cells #[.int .i64 a2_0, .int .i64 a2_1, .int .i64 a2_2, .string a2_3, .string a2_4] 23 (0, 0)) (by (with_reducible repeat (first | apply xN_ | apply xD_ | apply xA_)); exact BK1.out) hb); have n2_ := Aside0.mk (below_step (by repeat (first | (with_reducible first | exact HB.out | apply yA_ | apply yN_ | apply yD_ | refine yS_ ?_ GE0.out | refine yS_ ?_ GE1.out) | exact HB.out)) hb); clear BK0; clear BK1; clear HB; have BK0 := n0_; have BK1 := n1_; have HB := n2_; clear n0_ n1_ n2_; (try clear hb)) | ((with_reducible refine gate_dst (N := 7) rfl ?_); (try (refine gate_guard (by rfl) ?_; dsimp only)); refine box_event ?hg (N := 7) ?hd (cs := #[.int .i64 0, .int .i64 0, .int .i64 0, .string (⟨#[]⟩ : ByteArray), .string (⟨#[]⟩ : ByteArray)]) (t := 23) ?hr ?_; (case hd => rfl); (case hg => rfl); (case hr => first | (go_simp; done) | (go_simp; rfl)); intro gb2 hg w325 hbox hb; have n0_ := Aside0.mk (blk_below (g := gb0) (o := .cells #[.int .i64 a0_0, .int .i64 a0_1, .int .i64 a0_2, .string a0_3, .string a0_4] 23 (0, 0)) (by (with_reducible repeat (first | apply xN_ | apply xD_ | apply xA_)); exact BK0.out) hb); have n1_ := Aside0.mk (blk_below (g := gb1) (o := .cells #[.int .i64 a2_0, .int .i64 a2_1, .int .i64 a2_2, .string a2_3, .string a2_4] 23 (0, 0)) (by (with_reducible repeat (first | apply xN_ | apply xD_ | apply xA_)); exact BK1.out) hb); have n2_ := Aside0.mk (below_step (by repeat (first | (with_reducible first | exact HB.out | apply yA_ | apply yN_ | apply yD_ | refine yS_ ?_ GE0.out | refine yS_ ?_ GE1.out) | exact HB.out)) hb); have n3_ := Aside0.mk (hbox); have n4_ := Aside0.mk ((by rw [hg]; exact (below_size (by repeat (first | (with_reducible first | exact HB.out | apply yA_ | apply yN_ | apply yD_ | refine yS_ ?_ GE0.out | refine yS_ ?_ GE1.out) | exact HB.out))) : w.heap.size ≤ gb2)); have n5_ := Aside0.mk ((by rw [hg]; exact (below_size (by repeat (first | (with_reducible first | exact HB.out | apply yA_ | apply yN_ | apply yD_ | refine yS_ ?_ GE0.out | refine yS_ ?_ GE1.out) | exact HB.out))) : w.heap.size ≤ gb2)); have n6_ := Aside0.mk ((by rw [hg]; exact Nat.ne_of_lt (blk_lt (g := gb0) (o := .cells #[.int .i64 a0_0, .int .i64 a0_1, .int .i64 a0_2, .string a0_3, .string a0_4] 23 (0, 0)) (by (with_reducible repeat (first | apply xN_ | apply xD_ | apply xA_)); exact BK0.out)) : gb0 ≠ gb2)); have n7_ := Aside0.mk ((by rw [hg]; exact Nat.ne_of_gt (blk_lt (g := gb0) (o := .cells #[.int .i64 a0_0, .int .i64 a0_1, .int .i64 a0_2, .string a0_3, .string a0_4] 23 (0, 0)) (by (with_reducible repeat (first | apply xN_ | apply xD_ | apply xA_)); exact BK0.out)) : gb2 ≠ gb0)); have n8_ := Aside0.mk ((by rw [hg]; exact Nat.ne_of_lt (blk_lt (g := gb1) (o := .cells #[.int .i64 a2_0, .int .i64 a2_1, .int .i64 a2_2, .string a2_3, .string a2_4] 23 (0, 0)) (by (with_reducible repeat (first | apply xN_ | apply xD_ | apply xA_)); exact BK1.out)) : gb1 ≠ gb2)); have n9_ := Aside0.mk ((by rw [hg]; exact Nat.ne_of_gt (blk_lt (g := gb1) (o := .cells #[.int .i64 a2_0, .int .i64 a2_1, .int .i64 a2_2, .string a2_3, .string a2_4] 23 (0, 0)) (by (with_reducible repeat (first | apply xN_ | apply xD_ | apply xA_)); exact BK1.out)) : gb2 ≠ gb1)); clear BK0; clear BK1; clear HB; have BK0 := n0_; have BK1 := n1_; have HB := n2_; have BK2 := n3_; have GW2 := n4_; have GE2 := n5_; have NB0_2 := n6_; have NB2_0 := n7_; have NB1_2 := n8_; have NB2_1 := n9_; clear n0_ n1_ n2_ n3_ n4_ n5_ n6_ n7_ n8_ n9_; clear hb hbox hg; have hnb326 := NB2_0.out; have hnc326 := NB0_2.out; have hnb327 := NB2_1.out; have hnc327 := NB1_2.out; have uz82_0 : w325.cell? ⟨gb2, 0, none⟩ = some (.int .i64 0) := (xC_ BK2.out 0).trans rfl; have uz82_1 : w325.cell? ⟨gb2, 1, none⟩ = some (.int .i64 0) := (xC_ BK2.out 1).trans rfl; have uz82_2 : w325.cell? ⟨gb2, 2, none⟩ = some (.int .i64 0) := (xC_ BK2.out 2).trans rfl; have uz82_3 : w325.cell? ⟨gb2, 3, none⟩ = some (.string (⟨#[]⟩ : ByteArray)) := (xC_ BK2.out 3).trans rfl; have uz82_4 : w325.cell? ⟨gb2, 4, none⟩ = some (.string (⟨#[]⟩ : ByteArray)) := (xC_ BK2.out 4).trans rfl; have fz82_0 := xF_ BK2.out 0; have fz82_1 := xF_ BK2.out 1; have fz82_2 := xF_ BK2.out 2; have fz82_3 := xF_ BK2.out 3; have fz82_4 := xF_ BK2.out 4; have uz83_0 : w325.cell? ⟨gb0, 0, none⟩ = some (.int .i64 a0_0) := (xC_ BK0.out 0).trans rfl; have uz83_1 : w325.cell? ⟨gb0, 1, none⟩ = some (.int .i64 a0_1) := (xC_ BK0.out 1).trans rfl; have uz83_2 : w325.cell? ⟨gb0, 2, none⟩ = some (.int .i64 a0_2) := (xC_ BK0.out 2).trans rfl; have uz83_3 : w325.cell? ⟨gb0, 3, none⟩ = some (.string a0_3) := (xC_ BK0.out 3).trans rfl; have uz83_4 : w325.cell? ⟨gb0, 4, none⟩ = some (.string a0_4) := (xC_ BK0.out 4).trans rfl; have fz83_0 := xF_ BK0.out 0; have fz83_1 := xF_ BK0.out 1; have fz83_2 := xF_ BK0.out 2; have fz83_3 := xF_ BK0.out 3; have fz83_4 := xF_ BK0.out 4) | (go_at_call 13; (with_reducible refine (ver_Check.calls a0_0 a0_1 a0_2 a0_3 a0_4 true _ A306.out).mono ?_); rintro e w330 ⟨rfl, hb⟩; have n0_ := Aside0.mk (blk_below (g := gb0) (o := .cells #[.int .i64 a0_0, .int .i64 a0_1, .int .i64 a0_2, .string a0_3, .string a0_4] 23 (0, 0)) (by (with_reducible repeat (first | apply xN_ | apply xD_ | apply xA_)); refine xR_ ?_ NB0_2.out _; refine xR_ ?_ NB0_2.out _; refine xR_ ?_ NB0_2.out _; refine xR_ ?_ NB0_2.out _; refine xR_ ?_ NB0_2.out _; (with_reducible repeat (first | apply xN_ | apply xD_ | apply xA_)); exact BK0.out) hb); have n1_ := Aside0.mk (blk_below (g := gb1) (o := .cells #[.int .i64 a2_0, .int .i64 a2_1, .int .i64 a2_2, .string a2_3, .string a2_4] 23 (0, 0)) (by (with_reducible repeat (first | apply xN_ | apply xD_ | apply xA_)); refine xR_ ?_ NB1_2.out _; refine xR_ ?_ NB1_2.out _; refine xR_ ?_ NB1_2.out _; refine xR_ ?_ NB1_2.out _; refine xR_ ?_ NB1_2.out _; (with_reducible repeat (first | apply xN_ | apply xD_ | apply xA_)); exact BK1.out) hb); have n2_ := Aside0.mk (blk_below (g := gb2) (o := .cells #[.int .i64 0, .int .i64 0, .int .i64 0, .string t455, .string t456] 23 (0, 0)) (by (with_reducible repeat (first | apply xN_ | apply xD_ | apply xA_)); refine blk_put (cs := #[.int .i64 0, .int .i64 0, .int .i64 0, .string t455, .string (⟨#[]⟩ : ByteArray)]) ?_ 4 _ rfl; refine blk_put (cs := #[.int .i64 0, .int .i64 0, .int .i64 0, .string (⟨#[]⟩ : ByteArray), .string (⟨#[]⟩ : ByteArray)]) ?_ 3 _ rfl; refine blk_put (cs := #[.int .i64 0, .int .i64 0, .int .i64 0, .string (⟨#[]⟩ : ByteArray), .string (⟨#[]⟩ : ByteArray)]) ?_ 2 _ rfl; refine blk_put (cs := #[.int .i64 0, .int .i64 0, .int .i64 0, .string (⟨#[]⟩ : ByteArray), .string (⟨#[]⟩ : ByteArray)]) ?_ 1 _ rfl; refine blk_put (cs := #[.int .i64 0, .int .i64 0, .int .i64 0, .string (⟨#[]⟩ : ByteArray), .string (⟨#[]⟩ : ByteArray)]) ?_ 0 _ rfl; (with_reducible repeat (first | apply xN_ | apply xD_ | apply xA_)); exact BK2.out) hb); have n3_ := Aside0.mk (below_step (by repeat (first | (with_reducible first | exact HB.out | apply yA_ | apply yN_ | apply yD_ | refine yS_ ?_ GE0.out | refine yS_ ?_ GE1.out | refine yS_ ?_ GE2.out) | exact HB.out)) hb); clear BK0; clear BK1; clear BK2; clear HB; have BK0 := n0_; have BK1 := n1_; have BK2 := n2_; have HB := n3_; clear n0_ n1_ n2_ n3_; (try clear hb)) | (go_at_call 10; (with_reducible refine (armadalaw07_live.calls kj3  true _ A321.out (LW0 := LW.out.below (by repeat (first | (with_reducible first | exact HB.out | apply yA_ | apply yN_ | apply yD_ | refine yS_ ?_ GE0.out | refine yS_ ?_ GE1.out | refine yS_ ?_ GE2.out) | exact HB.out)))).mono ?_); rintro e w331 ⟨rfl, hb⟩; have n0_ := Aside0.mk (blk_below (g := gb0) (o := .cells #[.int .i64 a0_0, .int .i64 a0_1, .int .i64 a0_2, .string a0_3, .string a0_4] 23 (0, 0)) (by (with_reducible repeat (first | apply xN_ | apply xD_ | apply xA_)); exact BK0.out) hb); have n1_ := Aside0.mk (blk_below (g := gb1) (o := .cells #[.int .i64 a2_0, .int .i64 a2_1, .int .i64 a2_2, .string a2_3, .string a2_4] 23 (0, 0)) (by (with_reducible repeat (first | apply xN_ | apply xD_ | apply xA_)); exact BK1.out) hb); have n2_ := Aside0.mk (blk_below (g := gb2) (o := .cells #[.int .i64 0, .int .i64 0, .int .i64 0, .string t455, .string t456] 23 (0, 0)) (by (with_reducible repeat (first | apply xN_ | apply xD_ | apply xA_)); exact BK2.out) hb); have n3_ := Aside0.mk (below_step (by repeat (first | (with_reducible first | exact HB.out | apply yA_ | apply yN_ | apply yD_ | refine yS_ ?_ GE0.out | refine yS_ ?_ GE1.out | refine yS_ ?_ GE2.out) | exact HB.out)) hb); clear BK0; clear BK1; clear BK2; clear HB; have BK0 := n0_; have BK1 := n1_; have BK2 := n2_; have HB := n3_; clear n0_ n1_ n2_ n3_; (try clear hb)))
          go_ret
          exact ⟨by first | rfl | (simp [errW_none, errW_some] <;> rfl) | (simp [*, errW_none, errW_some] <;> rfl), by repeat (first | (with_reducible first | exact HB.out | apply yA_ | apply yN_ | apply yD_ | refine yS_ ?_ GE0.out | refine yS_ ?_ GE1.out | refine yS_ ?_ GE2.out) | exact HB.out)⟩
         ·rw [if_neg c320] at H
          have c320b0 : decide (3 < a1) = false := decide_eq_false c320
          clear c320
          exact absurd H (by simp)
       ·replace c307 := Bool.eq_false_iff.mpr c307
        subst c307
        have H1 : ((armadalaw07_live.f kj3).bind fun t463 => (some t463)) = some true := by rw [if_neg (show ¬ (false = true) by decide)] at H; exact H
        clear H
        have H := H1
        clear H1
        replace H := Option.bind_eq_some_iff.mp H
        obtain ⟨t463, A3320, H⟩ := H
        replace H : (some t463) = some true := H
        have A332 := Aside0.mk A3320
        clear A3320
        obtain rfl := Option.some.inj H
        have hnb333 := NB0_1.out
        have hnc333 := NB1_0.out
        have uz84_0 : wc.cell? ⟨gb0, 0, none⟩ = some (.int .i64 a0_0) := (xC_ BK0.out 0).trans rfl
        have uz84_1 : wc.cell? ⟨gb0, 1, none⟩ = some (.int .i64 a0_1) := (xC_ BK0.out 1).trans rfl
        have uz84_2 : wc.cell? ⟨gb0, 2, none⟩ = some (.int .i64 a0_2) := (xC_ BK0.out 2).trans rfl
        have uz84_3 : wc.cell? ⟨gb0, 3, none⟩ = some (.string a0_3) := (xC_ BK0.out 3).trans rfl
        have uz84_4 : wc.cell? ⟨gb0, 4, none⟩ = some (.string a0_4) := (xC_ BK0.out 4).trans rfl
        have fz84_0 := xF_ BK0.out 0
        have fz84_1 := xF_ BK0.out 1
        have fz84_2 := xF_ BK0.out 2
        have fz84_3 := xF_ BK0.out 3
        have fz84_4 := xF_ BK0.out 4
        go_wp2_with (first | ((with_reducible refine gate_callee (f := 17) rfl ?_); refine goesL_ (some 38) rfl rfl Tryd.func17 (by kernel_rfl) rfl #[.agg #[.int .i64 a0_0, .int .i64 a0_1, .int .i64 a0_2, .string a0_3, .string a0_4], .int .i64 a1] rfl (by (try simp only [List.map_toArray, List.map_cons, List.map_nil]); first | done | rfl) ?_; (with_reducible refine (ver_Bump.calls a0_0 a0_1 a0_2 a0_3 a0_4 a1 0 0 0 t455 t456 t457 _ A23.out).mono ?_); rintro e w335 ⟨rfl, hb⟩; refine ⟨_, rfl, ?_⟩; have n0_ := Aside0.mk (blk_below (g := gb0) (o := .cells #[.int .i64 a0_0, .int .i64 a0_1, .int .i64 a0_2, .string a0_3, .string a0_4] 23 (0, 0)) (by (with_reducible repeat (first | apply xN_ | apply xD_ | apply xA_)); exact BK0.out) hb); have n1_ := Aside0.mk (blk_below (g := gb1) (o := .cells #[.int .i64 a2_0, .int .i64 a2_1, .int .i64 a2_2, .string a2_3, .string a2_4] 23 (0, 0)) (by (with_reducible repeat (first | apply xN_ | apply xD_ | apply xA_)); exact BK1.out) hb); have n2_ := Aside0.mk (below_step (by repeat (first | (with_reducible first | exact HB.out | apply yA_ | apply yN_ | apply yD_ | refine yS_ ?_ GE0.out | refine yS_ ?_ GE1.out) | exact HB.out)) hb); clear BK0; clear BK1; clear HB; have BK0 := n0_; have BK1 := n1_; have HB := n2_; clear n0_ n1_ n2_; (try clear hb)) | ((with_reducible refine gate_dst (N := 7) rfl ?_); (try (refine gate_guard (by rfl) ?_; dsimp only)); refine box_event ?hg (N := 7) ?hd (cs := #[.int .i64 0, .int .i64 0, .int .i64 0, .string (⟨#[]⟩ : ByteArray), .string (⟨#[]⟩ : ByteArray)]) (t := 23) ?hr ?_; (case hd => rfl); (case hg => rfl); (case hr => first | (go_simp; done) | (go_simp; rfl)); intro gb2 hg w336 hbox hb; have n0_ := Aside0.mk (blk_below (g := gb0) (o := .cells #[.int .i64 a0_0, .int .i64 a0_1, .int .i64 a0_2, .string a0_3, .string a0_4] 23 (0, 0)) (by (with_reducible repeat (first | apply xN_ | apply xD_ | apply xA_)); exact BK0.out) hb); have n1_ := Aside0.mk (blk_below (g := gb1) (o := .cells #[.int .i64 a2_0, .int .i64 a2_1, .int .i64 a2_2, .string a2_3, .string a2_4] 23 (0, 0)) (by (with_reducible repeat (first | apply xN_ | apply xD_ | apply xA_)); exact BK1.out) hb); have n2_ := Aside0.mk (below_step (by repeat (first | (with_reducible first | exact HB.out | apply yA_ | apply yN_ | apply yD_ | refine yS_ ?_ GE0.out | refine yS_ ?_ GE1.out) | exact HB.out)) hb); have n3_ := Aside0.mk (hbox); have n4_ := Aside0.mk ((by rw [hg]; exact (below_size (by repeat (first | (with_reducible first | exact HB.out | apply yA_ | apply yN_ | apply yD_ | refine yS_ ?_ GE0.out | refine yS_ ?_ GE1.out) | exact HB.out))) : w.heap.size ≤ gb2)); have n5_ := Aside0.mk ((by rw [hg]; exact (below_size (by repeat (first | (with_reducible first | exact HB.out | apply yA_ | apply yN_ | apply yD_ | refine yS_ ?_ GE0.out | refine yS_ ?_ GE1.out) | exact HB.out))) : w.heap.size ≤ gb2)); have n6_ := Aside0.mk ((by rw [hg]; exact Nat.ne_of_lt (blk_lt (g := gb0) (o := .cells #[.int .i64 a0_0, .int .i64 a0_1, .int .i64 a0_2, .string a0_3, .string a0_4] 23 (0, 0)) (by (with_reducible repeat (first | apply xN_ | apply xD_ | apply xA_)); exact BK0.out)) : gb0 ≠ gb2)); have n7_ := Aside0.mk ((by rw [hg]; exact Nat.ne_of_gt (blk_lt (g := gb0) (o := .cells #[.int .i64 a0_0, .int .i64 a0_1, .int .i64 a0_2, .string a0_3, .string a0_4] 23 (0, 0)) (by (with_reducible repeat (first | apply xN_ | apply xD_ | apply xA_)); exact BK0.out)) : gb2 ≠ gb0)); have n8_ := Aside0.mk ((by rw [hg]; exact Nat.ne_of_lt (blk_lt (g := gb1) (o := .cells #[.int .i64 a2_0, .int .i64 a2_1, .int .i64 a2_2, .string a2_3, .string a2_4] 23 (0, 0)) (by (with_reducible repeat (first | apply xN_ | apply xD_ | apply xA_)); exact BK1.out)) : gb1 ≠ gb2)); have n9_ := Aside0.mk ((by rw [hg]; exact Nat.ne_of_gt (blk_lt (g := gb1) (o := .cells #[.int .i64 a2_0, .int .i64 a2_1, .int .i64 a2_2, .string a2_3, .string a2_4] 23 (0, 0)) (by (with_reducible repeat (first | apply xN_ | apply xD_ | apply xA_)); exact BK1.out)) : gb2 ≠ gb1)); clear BK0; clear BK1; clear HB; have BK0 := n0_; have BK1 := n1_; have HB := n2_; have BK2 := n3_; have GW2 := n4_; have GE2 := n5_; have NB0_2 := n6_; have NB2_0 := n7_; have NB1_2 := n8_; have NB2_1 := n9_; clear n0_ n1_ n2_ n3_ n4_ n5_ n6_ n7_ n8_ n9_; clear hb hbox hg; have hnb337 := NB2_0.out; have hnc337 := NB0_2.out; have hnb338 := NB2_1.out; have hnc338 := NB1_2.out; have uz85_0 : w336.cell? ⟨gb2, 0, none⟩ = some (.int .i64 0) := (xC_ BK2.out 0).trans rfl; have uz85_1 : w336.cell? ⟨gb2, 1, none⟩ = some (.int .i64 0) := (xC_ BK2.out 1).trans rfl; have uz85_2 : w336.cell? ⟨gb2, 2, none⟩ = some (.int .i64 0) := (xC_ BK2.out 2).trans rfl; have uz85_3 : w336.cell? ⟨gb2, 3, none⟩ = some (.string (⟨#[]⟩ : ByteArray)) := (xC_ BK2.out 3).trans rfl; have uz85_4 : w336.cell? ⟨gb2, 4, none⟩ = some (.string (⟨#[]⟩ : ByteArray)) := (xC_ BK2.out 4).trans rfl; have fz85_0 := xF_ BK2.out 0; have fz85_1 := xF_ BK2.out 1; have fz85_2 := xF_ BK2.out 2; have fz85_3 := xF_ BK2.out 3; have fz85_4 := xF_ BK2.out 4; have uz86_0 : w336.cell? ⟨gb0, 0, none⟩ = some (.int .i64 a0_0) := (xC_ BK0.out 0).trans rfl; have uz86_1 : w336.cell? ⟨gb0, 1, none⟩ = some (.int .i64 a0_1) := (xC_ BK0.out 1).trans rfl; have uz86_2 : w336.cell? ⟨gb0, 2, none⟩ = some (.int .i64 a0_2) := (xC_ BK0.out 2).trans rfl; have uz86_3 : w336.cell? ⟨gb0, 3, none⟩ = some (.string a0_3) := (xC_ BK0.out 3).trans rfl; have uz86_4 : w336.cell? ⟨gb0, 4, none⟩ = some (.string a0_4) := (xC_ BK0.out 4).trans rfl; have fz86_0 := xF_ BK0.out 0; have fz86_1 := xF_ BK0.out 1; have fz86_2 := xF_ BK0.out 2; have fz86_3 := xF_ BK0.out 3; have fz86_4 := xF_ BK0.out 4) | (go_at_call 13; (with_reducible refine (ver_Check.calls a0_0 a0_1 a0_2 a0_3 a0_4 false _ A306.out).mono ?_); rintro e w341 ⟨rfl, hb⟩; have n0_ := Aside0.mk (blk_below (g := gb0) (o := .cells #[.int .i64 a0_0, .int .i64 a0_1, .int .i64 a0_2, .string a0_3, .string a0_4] 23 (0, 0)) (by (with_reducible repeat (first | apply xN_ | apply xD_ | apply xA_)); refine xR_ ?_ NB0_2.out _; refine xR_ ?_ NB0_2.out _; refine xR_ ?_ NB0_2.out _; refine xR_ ?_ NB0_2.out _; refine xR_ ?_ NB0_2.out _; (with_reducible repeat (first | apply xN_ | apply xD_ | apply xA_)); exact BK0.out) hb); have n1_ := Aside0.mk (blk_below (g := gb1) (o := .cells #[.int .i64 a2_0, .int .i64 a2_1, .int .i64 a2_2, .string a2_3, .string a2_4] 23 (0, 0)) (by (with_reducible repeat (first | apply xN_ | apply xD_ | apply xA_)); refine xR_ ?_ NB1_2.out _; refine xR_ ?_ NB1_2.out _; refine xR_ ?_ NB1_2.out _; refine xR_ ?_ NB1_2.out _; refine xR_ ?_ NB1_2.out _; (with_reducible repeat (first | apply xN_ | apply xD_ | apply xA_)); exact BK1.out) hb); have n2_ := Aside0.mk (blk_below (g := gb2) (o := .cells #[.int .i64 0, .int .i64 0, .int .i64 0, .string t455, .string t456] 23 (0, 0)) (by (with_reducible repeat (first | apply xN_ | apply xD_ | apply xA_)); refine blk_put (cs := #[.int .i64 0, .int .i64 0, .int .i64 0, .string t455, .string (⟨#[]⟩ : ByteArray)]) ?_ 4 _ rfl; refine blk_put (cs := #[.int .i64 0, .int .i64 0, .int .i64 0, .string (⟨#[]⟩ : ByteArray), .string (⟨#[]⟩ : ByteArray)]) ?_ 3 _ rfl; refine blk_put (cs := #[.int .i64 0, .int .i64 0, .int .i64 0, .string (⟨#[]⟩ : ByteArray), .string (⟨#[]⟩ : ByteArray)]) ?_ 2 _ rfl; refine blk_put (cs := #[.int .i64 0, .int .i64 0, .int .i64 0, .string (⟨#[]⟩ : ByteArray), .string (⟨#[]⟩ : ByteArray)]) ?_ 1 _ rfl; refine blk_put (cs := #[.int .i64 0, .int .i64 0, .int .i64 0, .string (⟨#[]⟩ : ByteArray), .string (⟨#[]⟩ : ByteArray)]) ?_ 0 _ rfl; (with_reducible repeat (first | apply xN_ | apply xD_ | apply xA_)); exact BK2.out) hb); have n3_ := Aside0.mk (below_step (by repeat (first | (with_reducible first | exact HB.out | apply yA_ | apply yN_ | apply yD_ | refine yS_ ?_ GE0.out | refine yS_ ?_ GE1.out | refine yS_ ?_ GE2.out) | exact HB.out)) hb); clear BK0; clear BK1; clear BK2; clear HB; have BK0 := n0_; have BK1 := n1_; have BK2 := n2_; have HB := n3_; clear n0_ n1_ n2_ n3_; (try clear hb)) | (go_at_call 10; (with_reducible refine (armadalaw07_live.calls kj3  true _ A332.out (LW0 := LW.out.below (by repeat (first | (with_reducible first | exact HB.out | apply yA_ | apply yN_ | apply yD_ | refine yS_ ?_ GE0.out | refine yS_ ?_ GE1.out | refine yS_ ?_ GE2.out) | exact HB.out)))).mono ?_); rintro e w342 ⟨rfl, hb⟩; have n0_ := Aside0.mk (blk_below (g := gb0) (o := .cells #[.int .i64 a0_0, .int .i64 a0_1, .int .i64 a0_2, .string a0_3, .string a0_4] 23 (0, 0)) (by (with_reducible repeat (first | apply xN_ | apply xD_ | apply xA_)); exact BK0.out) hb); have n1_ := Aside0.mk (blk_below (g := gb1) (o := .cells #[.int .i64 a2_0, .int .i64 a2_1, .int .i64 a2_2, .string a2_3, .string a2_4] 23 (0, 0)) (by (with_reducible repeat (first | apply xN_ | apply xD_ | apply xA_)); exact BK1.out) hb); have n2_ := Aside0.mk (blk_below (g := gb2) (o := .cells #[.int .i64 0, .int .i64 0, .int .i64 0, .string t455, .string t456] 23 (0, 0)) (by (with_reducible repeat (first | apply xN_ | apply xD_ | apply xA_)); exact BK2.out) hb); have n3_ := Aside0.mk (below_step (by repeat (first | (with_reducible first | exact HB.out | apply yA_ | apply yN_ | apply yD_ | refine yS_ ?_ GE0.out | refine yS_ ?_ GE1.out | refine yS_ ?_ GE2.out) | exact HB.out)) hb); clear BK0; clear BK1; clear BK2; clear HB; have BK0 := n0_; have BK1 := n1_; have BK2 := n2_; have HB := n3_; clear n0_ n1_ n2_ n3_; (try clear hb)))
        go_ret
        exact ⟨by first | rfl | (simp [errW_none, errW_some] <;> rfl) | (simp [*, errW_none, errW_some] <;> rfl), by repeat (first | (with_reducible first | exact HB.out | apply yA_ | apply yN_ | apply yD_ | refine yS_ ?_ GE0.out | refine yS_ ?_ GE1.out | refine yS_ ?_ GE2.out) | exact HB.out)⟩
     ·rw [if_neg c295] at H
      have c295b0 : (t452 == 0 && (t453 == 0 && (t454 == 0 && (t455.toList == ([] : List UInt8) && (t456.toList == ([] : List UInt8)))))) = false := by simpa using c295
      (try (have c295b1 : decide (t452 = 0 && (t453 == 0 && (t454 == 0 && (t455.toList == ([] : List UInt8) && (t456.toList == ([] : List UInt8)))))) = false := by simpa using c295))
      (try (have c295b2 : (t452 == 0 && (t453 == 0 && (t454 == 0 && (t455.toList == ([] : List UInt8) && (t456.toList == ([] : List UInt8)))))) = false := by simpa using c295))
      (try (have c295b3 : ¬ (t452 = 0 && (t453 == 0 && (t454 == 0 && (t455.toList == ([] : List UInt8) && (t456.toList == ([] : List UInt8)))))) := by simpa using c295))
      clear c295
      exact absurd H (by simp)
end
end Go.Proofs.YthoiepkejhhcoaaDoor.P
