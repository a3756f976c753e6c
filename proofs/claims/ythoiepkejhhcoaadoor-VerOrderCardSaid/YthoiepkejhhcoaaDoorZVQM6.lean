/- Printed functions, merged. -/
import Derived.Test.YthoiepkejhhcoaaDoorZVQM0
import Derived.Test.YthoiepkejhhcoaaDoorZVQVLaid
import Derived.Test.YthoiepkejhhcoaaDoorZVQM4
import Derived.Test.YthoiepkejhhcoaaDoorZVQM5
import Derived.Test.YthoiepkejhhcoaaDoorZVQM1
import Derived.Test.YthoiepkejhhcoaaDoorZVQM2
import Derived.Test.YthoiepkejhhcoaaDoorZVQVBumpZ
import Derived.Test.YthoiepkejhhcoaaDoorZVQAl
namespace Go.Proofs.YthoiepkejhhcoaaDoor.P
open Go.RowKit Go.Proofs.YthoiepkejhhcoaaDoorW.PrintWords Go.Proofs.YthoiepkejhhcoaaDoorW.PrintLast Go.Proofs.YthoiepkejhhcoaaDoorW.PrintMore
attribute [local go_sem] max2_int min2_int max_two min_two max_three min_three max_four min_four   -- for this text's walks alone
set_option linter.unusedVariables false
set_option linter.unusedSimpArgs false
section
attribute [local go_sem high] eqA23
mutual
def armadalaw07_VerOrder.l0 : Nat → List (S23) → Int → Int → Option (Bool)
 | 0, _, _, _ => none
 | k + 1, x0, x1, x5 => if x5 < (x0.length : Int) then (if 0 ≤ x5 then (if (((rd_T23 x0 x5).f3).size : Int) > 200 then ((armadalaw07_live.f k).bind fun t363 => (some t363)) else (if (((rd_T23 x0 x5).f4).size : Int) > 200 then ((armadalaw07_live.f k).bind fun t365 => (some t365)) else (armadalaw07_VerOrder.l0 k x0 x1 (wrap64 (x5 + 1))))) else (none)) else (armadalaw07_VerOrder.l1 k x0 x1 0)
def armadalaw07_VerOrder.l1 : Nat → List (S23) → Int → Int → Option (Bool)
 | 0, _, _, _ => none
 | k + 1, x0, x1, x6 => if x6 < (x0.length : Int) then (if 0 ≤ x6 then ((ver_Bump.f ((rd_T23 x0 x6).f0) ((rd_T23 x0 x6).f1) ((rd_T23 x0 x6).f2) ((rd_T23 x0 x6).f3) ((rd_T23 x0 x6).f4) x1).bind fun bt382 => ((armadaref07_Bump.f k ((rd_T23 x0 x6).f0) ((rd_T23 x0 x6).f1) ((rd_T23 x0 x6).f2) ((rd_T23 x0 x6).f3) ((rd_T23 x0 x6).f4) x1).bind fun bt390 => (if (!(bt382.1 == bt390.1) || (!(bt382.2.1 == bt390.2.1) || (!(bt382.2.2.1 == bt390.2.2.1) || (!(bt382.2.2.2.1.toList == bt390.2.2.2.1.toList) || (!(bt382.2.2.2.2.1.toList == bt390.2.2.2.2.1.toList)))))) = true then (some false) else (if bt382.2.2.2.2.2 = bt390.2.2.2.2.2 then (if 0 < (x0.length : Int) then ((ver_Compare.f k ((rd_T23 x0 0).f0) ((rd_T23 x0 0).f1) ((rd_T23 x0 0).f2) ((rd_T23 x0 0).f3) ((rd_T23 x0 0).f4) ((rd_T23 x0 x6).f0) ((rd_T23 x0 x6).f1) ((rd_T23 x0 x6).f2) ((rd_T23 x0 x6).f3) ((rd_T23 x0 x6).f4)).bind fun t399 => ((armadaref07_Compare.f k ((rd_T23 x0 0).f0) ((rd_T23 x0 0).f1) ((rd_T23 x0 0).f2) ((rd_T23 x0 0).f3) ((rd_T23 x0 0).f4) ((rd_T23 x0 x6).f0) ((rd_T23 x0 x6).f1) ((rd_T23 x0 x6).f2) ((rd_T23 x0 x6).f3) ((rd_T23 x0 x6).f4)).bind fun t402 => (if t399 = t402 then (armadalaw07_VerOrder.l1 k x0 x1 (wrap64 (x6 + 1))) else (some false)))) else (none)) else (some false))))) else (none)) else ((ver_Max.f k x0).bind fun bt366 => ((armadaref07_Max.f k x0).bind fun bt373 => (if (bt366.1 == bt373.1 && (bt366.2.1 == bt373.2.1 && (bt366.2.2.1 == bt373.2.2.1 && (bt366.2.2.2.1.toList == bt373.2.2.2.1.toList && (bt366.2.2.2.2.1.toList == bt373.2.2.2.2.1.toList))))) = true then (if (bt366.2.2.2.2.2 == bt373.2.2.2.2.2) = true then ((armadalaw07_live.f k).bind fun t380 => (some t380)) else (some false)) else (some false))))
end
def armadalaw07_VerOrder.f (k : Nat) (l0 : List (S23)) (a1 : Int) : Option (Bool) := if (l0.length : Int) > 60 then ((armadalaw07_live.f k).bind fun t361 => (some t361)) else (armadalaw07_VerOrder.l0 k l0 a1 0)
theorem armadalaw07_VerOrder.mono_l : ∀ k, (∀ y0 y1 y2, LeO (armadalaw07_VerOrder.l0 k y0 y1 y2) (armadalaw07_VerOrder.l0 (k + 1) y0 y1 y2)) ∧ (∀ y0 y1 y2, LeO (armadalaw07_VerOrder.l1 k y0 y1 y2) (armadalaw07_VerOrder.l1 (k + 1) y0 y1 y2))
 | 0 => ⟨fun _ _ _ r h => by simp [armadalaw07_VerOrder.l0] at h, fun _ _ _ r h => by simp [armadalaw07_VerOrder.l1] at h⟩
 | k + 1 => by
  obtain ⟨ih0, ih1⟩ := armadalaw07_VerOrder.mono_l k
  refine ⟨?_, ?_⟩
  ·intro y0 y1 y2
   unfold armadalaw07_VerOrder.l0
   repeat' first
   | (with_reducible exact ih0 _ _ _)
   | (with_reducible exact ih1 _ _ _)
   | (with_reducible exact armadalaw07_live.mono _)
   | (with_reducible exact armadaref07_Bump.mono _ _ _ _ _ _ _)
   | (with_reducible exact armadaref07_Compare.mono _ _ _ _ _ _ _ _ _ _ _)
   | (with_reducible exact armadaref07_Max.mono _ _)
   | (with_reducible exact ver_Compare.mono _ _ _ _ _ _ _ _ _ _ _)
   | (with_reducible exact ver_Max.mono _ _)
   | (with_reducible exact LeO.refl _)
   | (with_reducible exact LeO.none _)
   | (with_reducible refine LeO.ite ?_ ?_)
   | (with_reducible refine LeO.bind ?_ (fun _ => ?_))
   | exact ih0 _ _ _
   | exact ih1 _ _ _
   | exact armadalaw07_live.mono _
   | exact armadaref07_Bump.mono _ _ _ _ _ _ _
   | exact armadaref07_Compare.mono _ _ _ _ _ _ _ _ _ _ _
   | exact armadaref07_Max.mono _ _
   | exact ver_Compare.mono _ _ _ _ _ _ _ _ _ _ _
   | exact ver_Max.mono _ _
   | exact LeO.none _
   | refine LeO.ite ?_ ?_
   | refine LeO.bind ?_ (fun _ => ?_)
  ·intro y0 y1 y2
   unfold armadalaw07_VerOrder.l1
   repeat' first
   | (with_reducible exact ih0 _ _ _)
   | (with_reducible exact ih1 _ _ _)
   | (with_reducible exact armadalaw07_live.mono _)
   | (with_reducible exact armadaref07_Bump.mono _ _ _ _ _ _ _)
   | (with_reducible exact armadaref07_Compare.mono _ _ _ _ _ _ _ _ _ _ _)
   | (with_reducible exact armadaref07_Max.mono _ _)
   | (with_reducible exact ver_Compare.mono _ _ _ _ _ _ _ _ _ _ _)
   | (with_reducible exact ver_Max.mono _ _)
   | (with_reducible exact LeO.refl _)
   | (with_reducible exact LeO.none _)
   | (with_reducible refine LeO.ite ?_ ?_)
   | (with_reducible refine LeO.bind ?_ (fun _ => ?_))
   | exact ih0 _ _ _
   | exact ih1 _ _ _
   | exact armadalaw07_live.mono _
   | exact armadaref07_Bump.mono _ _ _ _ _ _ _
   | exact armadaref07_Compare.mono _ _ _ _ _ _ _ _ _ _ _
   | exact armadaref07_Max.mono _ _
   | exact ver_Compare.mono _ _ _ _ _ _ _ _ _ _ _
   | exact ver_Max.mono _ _
   | exact LeO.none _
   | refine LeO.ite ?_ ?_
   | refine LeO.bind ?_ (fun _ => ?_)
theorem armadalaw07_VerOrder.mono : ∀ a0 a1 k, LeO (armadalaw07_VerOrder.f k a0 a1) (armadalaw07_VerOrder.f (k + 1) a0 a1) := by
 intro a0 a1 k
 obtain ⟨ih0, ih1⟩ := armadalaw07_VerOrder.mono_l k
 unfold armadalaw07_VerOrder.f
 repeat' first
   | (with_reducible exact ih0 _ _ _)
   | (with_reducible exact ih1 _ _ _)
   | (with_reducible exact armadalaw07_live.mono _)
   | (with_reducible exact armadaref07_Bump.mono _ _ _ _ _ _ _)
   | (with_reducible exact armadaref07_Compare.mono _ _ _ _ _ _ _ _ _ _ _)
   | (with_reducible exact armadaref07_Max.mono _ _)
   | (with_reducible exact ver_Compare.mono _ _ _ _ _ _ _ _ _ _ _)
   | (with_reducible exact ver_Max.mono _ _)
   | (with_reducible exact LeO.refl _)
   | (with_reducible exact LeO.none _)
   | (with_reducible refine LeO.ite ?_ ?_)
   | (with_reducible refine LeO.bind ?_ (fun _ => ?_))
   | exact ih0 _ _ _
   | exact ih1 _ _ _
   | exact armadalaw07_live.mono _
   | exact armadaref07_Bump.mono _ _ _ _ _ _ _
   | exact armadaref07_Compare.mono _ _ _ _ _ _ _ _ _ _ _
   | exact armadaref07_Max.mono _ _
   | exact ver_Compare.mono _ _ _ _ _ _ _ _ _ _ _
   | exact ver_Max.mono _ _
   | exact LeO.none _
   | refine LeO.ite ?_ ?_
   | refine LeO.bind ?_ (fun _ => ?_)
def armadalaw07_VerOrder.T13 : Bool × List (List Nat × List Nat) := (true, [([], []), ([], []), ([0, 1], [0, 1]), ([2], [2]), ([3], [3]), ([3], [3]), ([4, 5, 3], [3, 4, 5]), ([3, 6], [3, 6]), ([7, 3], [7]), ([8], [8]), ([9, 8], [8, 9]), ([10, 8], [8, 10]), ([8], [8]), ([8], [8]), ([12, 13, 8], [8, 12, 13]), ([14, 8], [8, 14]), ([11, 15, 8, 8], [8, 11, 15]), ([8], [8]), ([17, 8], [8, 17]), ([18, 8], [8, 18]), ([8], [8]), ([8], [8]), ([20, 21, 8], [8, 20, 21]), ([22, 8], [8, 22]), ([19, 23, 16, 8], [8, 19, 23]), ([16, 24, 8], [8, 16, 24]), ([8, 25], [8, 25])])
def armadalaw07_VerOrder.B13 : List Nat := [0, 0, 3, 7, 15, 15, 63, 127, 255, 511, 1023, 2047, 511, 511, 12799, 29183, 65535, 511, 131583, 393727, 511, 511, 3146239, 7340543, 16777215, 33554431, 67108863]
theorem armadalaw07_VerOrder.tab13 : rtab .any (opsOf Tryd.f4 13) = armadalaw07_VerOrder.T13 := by kernel_rfl
theorem armadalaw07_VerOrder.bits13 : waitsOk armadalaw07_VerOrder.T13.2 armadalaw07_VerOrder.B13 = true := by kernel_rfl
set_option maxHeartbeats 8000000 in
set_option maxRecDepth 100000 in
theorem armadalaw07_VerOrder.calls (k : Nat) (A0 : Option Addr) (c0 : Nat) (l0 : List (S23)) (a1 : Int) (r : Bool) (w : World) (hr0 : Kd.C k23 w A0 l0.length l0) (hc0 : l0.length ≤ c0) (h : armadalaw07_VerOrder.f k l0 a1 = some r) (hT_ : r = true := by rfl) (LW0 : LaidW w) :
  Calls Tryd.prog 4 #[.slice A0 l0.length c0, .int .i64 a1] w fun e w' => e = .returned (.bool r) ∧ Below w.heap.size w w' := by
 subst hT_
 have LW := Aside0.mk LW0
 clear LW0
 have hu23 := Tryd.underlying23
 have HR0 := Aside0.mk hr0
 have HC0 := Aside0.mk hc0
 clear hr0 hc0
 have HB := Aside0.mk (Below.refl w.heap.size w)
 have H : (if (l0.length : Int) > 60 then ((armadalaw07_live.f k).bind fun t361 => (some t361)) else (armadalaw07_VerOrder.l0 k l0 a1 0)) = some true := h
 clear h
 by_cases c3 : (l0.length : Int) > 60
 ·rw [if_pos c3] at H
  have c3b0 : decide (60 < (l0.length : Int)) = true := decide_eq_true c3
  have c3b1 : decide (60 < l0.length) = true := decide_eq_true (by omega)
  clear c3
  replace H := Option.bind_eq_some_iff.mp H
  obtain ⟨t361, A40, H⟩ := H
  replace H : (some t361) = some true := H
  have A4 := Aside0.mk A40
  clear A40
  obtain rfl := Option.some.inj H
  go_enter Tryd.func4, Tryd.ntmps4
  go_wp2_with (first | ((with_reducible refine gate_callee (f := 10) rfl ?_); refine goesL_ (some 18) rfl rfl Tryd.func10 (by kernel_rfl) rfl #[] rfl (by (try simp only [List.map_toArray, List.map_cons, List.map_nil]); first | done | rfl) ?_; (with_reducible refine (armadalaw07_live.calls k  true _ A4.out (LW0 := LW.out.below (by repeat (first | (with_reducible first | exact HB.out | apply yA_ | apply yN_ | apply yD_) | exact HB.out)))).mono ?_); rintro e w5 ⟨rfl, hb⟩; refine ⟨_, rfl, ?_⟩; have n0_ := Aside0.mk (below_step (by repeat (first | (with_reducible first | exact HB.out | apply yA_ | apply yN_ | apply yD_) | exact HB.out)) hb); clear HB; have HB := n0_; clear n0_; (try clear hb); (try clear hb2); (try clear hk); (try clear hi)))
  go_ret
  exact ⟨by first | rfl | (simp [errW_none, errW_some] <;> rfl) | (simp [*, errW_none, errW_some] <;> rfl), by repeat (first | (with_reducible first | exact HB.out | apply yA_ | apply yN_ | apply yD_) | exact HB.out)⟩
 ·rw [if_neg c3] at H
  have c3b0 : decide (60 < (l0.length : Int)) = false := decide_eq_false c3
  have c3b1 : decide (60 < l0.length) = false := decide_eq_false (by omega)
  clear c3
  have H' := Aside0.mk H
  clear H
  go_enter Tryd.func4, Tryd.ntmps4
  go_wp2
  go_loopg [5] k (fun kq v5 w' => ∃ (x5_1 : Int), v5 = .int .i64 x5_1 ∧ Aside0 (armadalaw07_VerOrder.l0 kq l0 a1 x5_1 = some true) ∧ Aside0 (kq ≤ k) ∧ Aside0 (Below w.heap.size w w'))
  case atStart => exact ⟨(0), (by first | rfl | (simp; done) | (simp [*]; done)), H', ⟨Nat.le_refl _⟩, ⟨by repeat (first | (with_reducible first | exact HB.out | apply yA_ | apply yN_ | apply yD_) | exact HB.out)⟩⟩
  case round =>
   clear H'
   (try clear c1); (try clear p2); (try clear c3); (try clear c3b0); (try clear c3b1); (try clear c4)
   obtain ⟨x5_1, rfl, HA, HK1, HB⟩ := hrel
   cases gk with
   | zero => exact absurd HA.out (by simp [armadalaw07_VerOrder.l0])
   | succ k1 =>
    have H := HA.out
    clear HA
    simp only [armadalaw07_VerOrder.l0] at H
    by_cases c6 : x5_1 < (l0.length : Int)
    ·rw [if_pos c6] at H
     have c6b0 : decide (x5_1 < (l0.length : Int)) = true := decide_eq_true c6
     clear c6
     by_cases c7 : 0 ≤ x5_1
     ·rw [if_pos c7] at H
      have c7b0 : decide (0 ≤ x5_1) = true := decide_eq_true c7
      clear c7
      by_cases c8 : (((rd_T23 l0 x5_1).f3).size : Int) > 200
      ·rw [if_pos c8] at H
       have c8b0 : decide (200 < (((rd_T23 l0 x5_1).f3).size : Int)) = true := decide_eq_true c8
       have c8b1 : decide (200 < ((rd_T23 l0 x5_1).f3).size) = true := decide_eq_true (by omega)
       clear c8
       replace H := Option.bind_eq_some_iff.mp H
       obtain ⟨t363, A90, H⟩ := H
       replace H : (some t363) = some true := H
       have A9 := Aside0.mk A90
       clear A90
       obtain rfl := Option.some.inj H
       have p362 : 0 ≤ (x5_1 : Int) := of_decide_eq_true (by first | (with_reducible assumption) | assumption)
       have q362 : x5_1 < (l0.length : Int) := of_decide_eq_true (by first | (with_reducible assumption) | assumption)
       obtain ⟨ad362, e362, hx362_0, hx362_1, hx362_2, hx362_3, hx362_4⟩ := at_T23 HR0.out x5_1 p362 q362
       cases e362
       replace hx362_0 := (HB.out.cell (World.block_lt_of_cell? w _ hx362_0)).trans hx362_0
       replace hx362_1 := (HB.out.cell (World.block_lt_of_cell? w _ hx362_1)).trans hx362_1
       replace hx362_2 := (HB.out.cell (World.block_lt_of_cell? w _ hx362_2)).trans hx362_2
       replace hx362_3 := (HB.out.cell (World.block_lt_of_cell? w _ hx362_3)).trans hx362_3
       replace hx362_4 := (HB.out.cell (World.block_lt_of_cell? w _ hx362_4)).trans hx362_4
       replace p362 := eq_true p362
       replace q362 := eq_true q362
       go_wp2_with (first | ((with_reducible refine gate_callee (f := 10) rfl ?_); refine goesL_ (some 41) rfl rfl Tryd.func10 (by kernel_rfl) rfl #[] rfl (by (try simp only [List.map_toArray, List.map_cons, List.map_nil]); first | done | rfl) ?_; (with_reducible refine (armadalaw07_live.calls k1  true _ A9.out (LW0 := LW.out.below (by repeat (first | (with_reducible first | exact HB.out | apply yA_ | apply yN_ | apply yD_) | exact HB.out)))).mono ?_); rintro e w10 ⟨rfl, hb⟩; refine ⟨_, rfl, ?_⟩; have n0_ := Aside0.mk (below_step (by repeat (first | (with_reducible first | exact HB.out | apply yA_ | apply yN_ | apply yD_) | exact HB.out)) hb); clear HB; have HB := n0_; clear n0_; (try clear hb); (try clear hb2); (try clear hk); (try clear hi)))
       go_ret
       exact ⟨by first | rfl | (simp [errW_none, errW_some] <;> rfl) | (simp [*, errW_none, errW_some] <;> rfl), by repeat (first | (with_reducible first | exact HB.out | apply yA_ | apply yN_ | apply yD_) | exact HB.out)⟩
      ·rw [if_neg c8] at H
       have c8b0 : decide (200 < (((rd_T23 l0 x5_1).f3).size : Int)) = false := decide_eq_false c8
       have c8b1 : decide (200 < ((rd_T23 l0 x5_1).f3).size) = false := decide_eq_false (by omega)
       clear c8
       by_cases c11 : (((rd_T23 l0 x5_1).f4).size : Int) > 200
       ·rw [if_pos c11] at H
        have c11b0 : decide (200 < (((rd_T23 l0 x5_1).f4).size : Int)) = true := decide_eq_true c11
        have c11b1 : decide (200 < ((rd_T23 l0 x5_1).f4).size) = true := decide_eq_true (by omega)
        clear c11
        replace H := Option.bind_eq_some_iff.mp H
        obtain ⟨t365, A120, H⟩ := H
        replace H : (some t365) = some true := H
        have A12 := Aside0.mk A120
        clear A120
        obtain rfl := Option.some.inj H
        have p362 : 0 ≤ (x5_1 : Int) := of_decide_eq_true (by first | (with_reducible assumption) | assumption)
        have q362 : x5_1 < (l0.length : Int) := of_decide_eq_true (by first | (with_reducible assumption) | assumption)
        obtain ⟨ad362, e362, hx362_0, hx362_1, hx362_2, hx362_3, hx362_4⟩ := at_T23 HR0.out x5_1 p362 q362
        cases e362
        replace hx362_0 := (HB.out.cell (World.block_lt_of_cell? w _ hx362_0)).trans hx362_0
        replace hx362_1 := (HB.out.cell (World.block_lt_of_cell? w _ hx362_1)).trans hx362_1
        replace hx362_2 := (HB.out.cell (World.block_lt_of_cell? w _ hx362_2)).trans hx362_2
        replace hx362_3 := (HB.out.cell (World.block_lt_of_cell? w _ hx362_3)).trans hx362_3
        replace hx362_4 := (HB.out.cell (World.block_lt_of_cell? w _ hx362_4)).trans hx362_4
        replace p362 := eq_true p362
        replace q362 := eq_true q362
        have p364 : 0 ≤ (x5_1 : Int) := of_decide_eq_true (by first | (with_reducible assumption) | assumption)
        have q364 : x5_1 < (l0.length : Int) := of_decide_eq_true (by first | (with_reducible assumption) | assumption)
        obtain ⟨ad364, e364, hx364_0, hx364_1, hx364_2, hx364_3, hx364_4⟩ := at_T23 HR0.out x5_1 p364 q364
        obtain rfl : ad362 = ad364 := (by injection e364)
        replace hx364_0 := (HB.out.cell (World.block_lt_of_cell? w _ hx364_0)).trans hx364_0
        replace hx364_1 := (HB.out.cell (World.block_lt_of_cell? w _ hx364_1)).trans hx364_1
        replace hx364_2 := (HB.out.cell (World.block_lt_of_cell? w _ hx364_2)).trans hx364_2
        replace hx364_3 := (HB.out.cell (World.block_lt_of_cell? w _ hx364_3)).trans hx364_3
        replace hx364_4 := (HB.out.cell (World.block_lt_of_cell? w _ hx364_4)).trans hx364_4
        replace p364 := eq_true p364
        replace q364 := eq_true q364
        go_wp2_with (first | ((with_reducible refine gate_callee (f := 10) rfl ?_); refine goesL_ (some 41) rfl rfl Tryd.func10 (by kernel_rfl) rfl #[] rfl (by (try simp only [List.map_toArray, List.map_cons, List.map_nil]); first | done | rfl) ?_; (with_reducible refine (armadalaw07_live.calls k1  true _ A12.out (LW0 := LW.out.below (by repeat (first | (with_reducible first | exact HB.out | apply yA_ | apply yN_ | apply yD_) | exact HB.out)))).mono ?_); rintro e w13 ⟨rfl, hb⟩; refine ⟨_, rfl, ?_⟩; have n0_ := Aside0.mk (below_step (by repeat (first | (with_reducible first | exact HB.out | apply yA_ | apply yN_ | apply yD_) | exact HB.out)) hb); clear HB; have HB := n0_; clear n0_; (try clear hb); (try clear hb2); (try clear hk); (try clear hi)))
        go_ret
        exact ⟨by first | rfl | (simp [errW_none, errW_some] <;> rfl) | (simp [*, errW_none, errW_some] <;> rfl), by repeat (first | (with_reducible first | exact HB.out | apply yA_ | apply yN_ | apply yD_) | exact HB.out)⟩
       ·rw [if_neg c11] at H
        have c11b0 : decide (200 < (((rd_T23 l0 x5_1).f4).size : Int)) = false := decide_eq_false c11
        have c11b1 : decide (200 < ((rd_T23 l0 x5_1).f4).size) = false := decide_eq_false (by omega)
        clear c11
        have H' := Aside0.mk H
        clear H
        have p362 : 0 ≤ (x5_1 : Int) := of_decide_eq_true (by first | (with_reducible assumption) | assumption)
        have q362 : x5_1 < (l0.length : Int) := of_decide_eq_true (by first | (with_reducible assumption) | assumption)
        obtain ⟨ad362, e362, hx362_0, hx362_1, hx362_2, hx362_3, hx362_4⟩ := at_T23 HR0.out x5_1 p362 q362
        cases e362
        replace hx362_0 := (HB.out.cell (World.block_lt_of_cell? w _ hx362_0)).trans hx362_0
        replace hx362_1 := (HB.out.cell (World.block_lt_of_cell? w _ hx362_1)).trans hx362_1
        replace hx362_2 := (HB.out.cell (World.block_lt_of_cell? w _ hx362_2)).trans hx362_2
        replace hx362_3 := (HB.out.cell (World.block_lt_of_cell? w _ hx362_3)).trans hx362_3
        replace hx362_4 := (HB.out.cell (World.block_lt_of_cell? w _ hx362_4)).trans hx362_4
        replace p362 := eq_true p362
        replace q362 := eq_true q362
        have p364 : 0 ≤ (x5_1 : Int) := of_decide_eq_true (by first | (with_reducible assumption) | assumption)
        have q364 : x5_1 < (l0.length : Int) := of_decide_eq_true (by first | (with_reducible assumption) | assumption)
        obtain ⟨ad364, e364, hx364_0, hx364_1, hx364_2, hx364_3, hx364_4⟩ := at_T23 HR0.out x5_1 p364 q364
        obtain rfl : ad362 = ad364 := (by injection e364)
        replace hx364_0 := (HB.out.cell (World.block_lt_of_cell? w _ hx364_0)).trans hx364_0
        replace hx364_1 := (HB.out.cell (World.block_lt_of_cell? w _ hx364_1)).trans hx364_1
        replace hx364_2 := (HB.out.cell (World.block_lt_of_cell? w _ hx364_2)).trans hx364_2
        replace hx364_3 := (HB.out.cell (World.block_lt_of_cell? w _ hx364_3)).trans hx364_3
        replace hx364_4 := (HB.out.cell (World.block_lt_of_cell? w _ hx364_4)).trans hx364_4
        replace p364 := eq_true p364
        replace q364 := eq_true q364
        go_wp2
        go_roundg k1
        case measure => have := HK1.out; omega
        case rel => exact ⟨(wrap64 (x5_1 + 1)), (by first | rfl | (simp; done) | (simp [*]; done)), H', ⟨by have := HK1.out; omega⟩, ⟨by repeat (first | (with_reducible first | exact HB.out | apply yA_ | apply yN_ | apply yD_) | exact HB.out)⟩⟩
     ·rw [if_neg c7] at H
      exact absurd H (by simp)
    ·rw [if_neg c6] at H
     have c6b0 : decide (x5_1 < (l0.length : Int)) = false := decide_eq_false c6
     clear c6
     have H' := Aside0.mk H
     clear H
     go_wp2
     go_loopg [6] k1 (fun kq v6 w' => ∃ (x6_2 : Int), v6 = .int .i64 x6_2 ∧ Aside0 (armadalaw07_VerOrder.l1 kq l0 a1 x6_2 = some true) ∧ Aside0 (kq ≤ k1) ∧ Aside0 (Below w.heap.size w w'))
     case atStart => exact ⟨(0), (by first | rfl | (simp; done) | (simp [*]; done)), H', ⟨Nat.le_refl _⟩, ⟨by repeat (first | (with_reducible first | exact HB.out | apply yA_ | apply yN_ | apply yD_) | exact HB.out)⟩⟩
     case round =>
      clear H'
      (try clear c1); (try clear p2); (try clear c3); (try clear c3b0); (try clear c3b1); (try clear p3); (try clear q3); (try clear hx3); (try clear c4); (try clear c6)
      (try clear c6b0); (try clear p6); (try clear c7); (try clear c7b0); (try clear c8); (try clear c8b0); (try clear c8b1); (try clear c10); (try clear c11); (try clear c11b0)
      (try clear c11b1); (try clear hx362_0); (try clear hx362_1); (try clear hx362_2); (try clear hx362_3); (try clear hx362_4); (try clear hx364_0); (try clear hx364_1)
      (try clear hx364_2); (try clear hx364_3); (try clear hx364_4); (try clear p2); (try clear p362); (try clear p364); (try clear q362); (try clear q364)
      obtain ⟨x6_2, rfl, HA, HK2, HB⟩ := hrel
      cases gk with
      | zero => exact absurd HA.out (by simp [armadalaw07_VerOrder.l1])
      | succ k2 =>
       have H := HA.out
       clear HA
       simp only [armadalaw07_VerOrder.l1] at H
       by_cases c14 : x6_2 < (l0.length : Int)
       ·rw [if_pos c14] at H
        have c14b0 : decide (x6_2 < (l0.length : Int)) = true := decide_eq_true c14
        clear c14
        by_cases c15 : 0 ≤ x6_2
        ·rw [if_pos c15] at H
         have c15b0 : decide (0 ≤ x6_2) = true := decide_eq_true c15
         clear c15
         replace H := Option.bind_eq_some_iff.mp H
         obtain ⟨⟨t382, t383, t384, t385, t386, t387⟩, A160, H⟩ := H
         replace H : ((armadaref07_Bump.f k2 ((rd_T23 l0 x6_2).f0) ((rd_T23 l0 x6_2).f1) ((rd_T23 l0 x6_2).f2) ((rd_T23 l0 x6_2).f3) ((rd_T23 l0 x6_2).f4) a1).bind fun bt390 => (if (!(t382 == bt390.1) || (!(t383 == bt390.2.1) || (!(t384 == bt390.2.2.1) || (!(t385.toList == bt390.2.2.2.1.toList) || (!(t386.toList == bt390.2.2.2.2.1.toList)))))) = true then (some false) else (if t387 = bt390.2.2.2.2.2 then (if 0 < (l0.length : Int) then ((ver_Compare.f k2 ((rd_T23 l0 0).f0) ((rd_T23 l0 0).f1) ((rd_T23 l0 0).f2) ((rd_T23 l0 0).f3) ((rd_T23 l0 0).f4) ((rd_T23 l0 x6_2).f0) ((rd_T23 l0 x6_2).f1) ((rd_T23 l0 x6_2).f2) ((rd_T23 l0 x6_2).f3) ((rd_T23 l0 x6_2).f4)).bind fun t399 => ((armadaref07_Compare.f k2 ((rd_T23 l0 0).f0) ((rd_T23 l0 0).f1) ((rd_T23 l0 0).f2) ((rd_T23 l0 0).f3) ((rd_T23 l0 0).f4) ((rd_T23 l0 x6_2).f0) ((rd_T23 l0 x6_2).f1) ((rd_T23 l0 x6_2).f2) ((rd_T23 l0 x6_2).f3) ((rd_T23 l0 x6_2).f4)).bind fun t402 => (if t399 = t402 then (armadalaw07_VerOrder.l1 k2 l0 a1 (wrap64 (x6_2 + 1))) else (some false)))) else (none)) else (some false)))) = some true := H
         have A16 := Aside0.mk A160
         clear A160
         replace H := Option.bind_eq_some_iff.mp H
         obtain ⟨⟨t390, t391, t392, t393, t394, t395⟩, A170, H⟩ := H
         replace H : (if (!(t382 == t390) || (!(t383 == t391) || (!(t384 == t392) || (!(t385.toList == t393.toList) || (!(t386.toList == t394.toList)))))) = true then (some false) else (if t387 = t395 then (if 0 < (l0.length : Int) then ((ver_Compare.f k2 ((rd_T23 l0 0).f0) ((rd_T23 l0 0).f1) ((rd_T23 l0 0).f2) ((rd_T23 l0 0).f3) ((rd_T23 l0 0).f4) ((rd_T23 l0 x6_2).f0) ((rd_T23 l0 x6_2).f1) ((rd_T23 l0 x6_2).f2) ((rd_T23 l0 x6_2).f3) ((rd_T23 l0 x6_2).f4)).bind fun t399 => ((armadaref07_Compare.f k2 ((rd_T23 l0 0).f0) ((rd_T23 l0 0).f1) ((rd_T23 l0 0).f2) ((rd_T23 l0 0).f3) ((rd_T23 l0 0).f4) ((rd_T23 l0 x6_2).f0) ((rd_T23 l0 x6_2).f1) ((rd_T23 l0 x6_2).f2) ((rd_T23 l0 x6_2).f3) ((rd_T23 l0 x6_2).f4)).bind fun t402 => (if t399 = t402 then (armadalaw07_VerOrder.l1 k2 l0 a1 (wrap64 (x6_2 + 1))) else (some false)))) else (none)) else (some false))) = some true := H
         have A17 := Aside0.mk A170
         clear A170
         by_cases c18 : (!(t382 == t390) || (!(t383 == t391) || (!(t384 == t392) || (!(t385.toList == t393.toList) || (!(t386.toList == t394.toList)))))) = true
         ·rw [if_pos c18] at H
          have c18b0 : (!(t382 == t390) || (!(t383 == t391) || (!(t384 == t392) || (!(t385.toList == t393.toList) || (!(t386.toList == t394.toList)))))) = true := c18
          clear c18
          exact absurd H (by simp)
         ·rw [if_neg c18] at H
          have c18b0 : (!(t382 == t390) || (!(t383 == t391) || (!(t384 == t392) || (!(t385.toList == t393.toList) || (!(t386.toList == t394.toList)))))) = false := by simpa using c18
          clear c18
          by_cases c19 : t387 = t395
          ·rw [if_pos c19] at H
           have c19b0 : (t387 == t395) = true := beq_iff_eq.mpr c19
           have c19b1 : (t387 != t395) = false := bne_eq_false_iff_eq.mpr c19
           clear c19
           by_cases c20 : 0 < (l0.length : Int)
           ·rw [if_pos c20] at H
            have c20b0 : decide (0 < (l0.length : Int)) = true := decide_eq_true c20
            have c20b1 : decide (0 < l0.length) = true := decide_eq_true (by omega)
            clear c20
            replace H := Option.bind_eq_some_iff.mp H
            obtain ⟨t399, A210, H⟩ := H
            replace H : ((armadaref07_Compare.f k2 ((rd_T23 l0 0).f0) ((rd_T23 l0 0).f1) ((rd_T23 l0 0).f2) ((rd_T23 l0 0).f3) ((rd_T23 l0 0).f4) ((rd_T23 l0 x6_2).f0) ((rd_T23 l0 x6_2).f1) ((rd_T23 l0 x6_2).f2) ((rd_T23 l0 x6_2).f3) ((rd_T23 l0 x6_2).f4)).bind fun t402 => (if t399 = t402 then (armadalaw07_VerOrder.l1 k2 l0 a1 (wrap64 (x6_2 + 1))) else (some false))) = some true := H
            have A21 := Aside0.mk A210
            clear A210
            replace H := Option.bind_eq_some_iff.mp H
            obtain ⟨t402, A220, H⟩ := H
            replace H : (if t399 = t402 then (armadalaw07_VerOrder.l1 k2 l0 a1 (wrap64 (x6_2 + 1))) else (some false)) = some true := H
            have A22 := Aside0.mk A220
            clear A220
            by_cases c23 : t399 = t402
            ·rw [if_pos c23] at H
             have c23b0 : (t399 == t402) = true := beq_iff_eq.mpr c23
             have c23b1 : (t399 != t402) = false := bne_eq_false_iff_eq.mpr c23
             clear c23
             have H' := Aside0.mk H
             clear H
             have p381 : 0 ≤ (x6_2 : Int) := of_decide_eq_true (by first | (with_reducible assumption) | assumption)
             have q381 : x6_2 < (l0.length : Int) := of_decide_eq_true (by first | (with_reducible assumption) | assumption)
             obtain ⟨ad381, e381, hx381_0, hx381_1, hx381_2, hx381_3, hx381_4⟩ := at_T23 HR0.out x6_2 p381 q381
             cases e381
             replace hx381_0 := (HB.out.cell (World.block_lt_of_cell? w _ hx381_0)).trans hx381_0
             replace hx381_1 := (HB.out.cell (World.block_lt_of_cell? w _ hx381_1)).trans hx381_1
             replace hx381_2 := (HB.out.cell (World.block_lt_of_cell? w _ hx381_2)).trans hx381_2
             replace hx381_3 := (HB.out.cell (World.block_lt_of_cell? w _ hx381_3)).trans hx381_3
             replace hx381_4 := (HB.out.cell (World.block_lt_of_cell? w _ hx381_4)).trans hx381_4
             replace p381 := eq_true p381
             replace q381 := eq_true q381
             try go_wp2_with (first | ((with_reducible refine gate_callee (f := 17) rfl ?_); refine goesL_ (some 54) rfl rfl Tryd.func17 (by kernel_rfl) rfl #[.agg #[.int .i64 ((rd_T23 l0 x6_2).f0), .int .i64 ((rd_T23 l0 x6_2).f1), .int .i64 ((rd_T23 l0 x6_2).f2), .string ((rd_T23 l0 x6_2).f3), .string ((rd_T23 l0 x6_2).f4)], .int .i64 a1] rfl (by (try simp only [List.map_toArray, List.map_cons, List.map_nil]); first | done | rfl) ?_; (with_reducible refine (ver_Bump.calls ((rd_T23 l0 x6_2).f0) ((rd_T23 l0 x6_2).f1) ((rd_T23 l0 x6_2).f2) ((rd_T23 l0 x6_2).f3) ((rd_T23 l0 x6_2).f4) a1 t382 t383 t384 t385 t386 t387 _ A16.out).mono ?_); rintro e w24 ⟨rfl, hb⟩; refine ⟨_, rfl, ?_⟩; have n0_ := Aside0.mk (below_step (by repeat (first | (with_reducible first | exact HB.out | apply yA_ | apply yN_ | apply yD_) | exact HB.out)) hb); clear HB; have HB := n0_; clear n0_; (try clear hb); (try clear hb2); (try clear hk); (try clear hi)) | ((with_reducible refine gate_dst (N := 7) rfl ?_); (try (refine gate_guard (by rfl) ?_; dsimp only)); refine box_event ?hg (N := 7) ?hd (cs := #[.int .i64 0, .int .i64 0, .int .i64 0, .string (⟨#[]⟩ : ByteArray), .string (⟨#[]⟩ : ByteArray)]) (t := 23) ?hr ?_; (case hd => rfl); (case hg => rfl); (case hr => first | (go_simp; done) | (go_simp; rfl)); intro gb388 hg w25 hbox hb; have n0_ := Aside0.mk (below_step (by repeat (first | (with_reducible first | exact HB.out | apply yA_ | apply yN_ | apply yD_) | exact HB.out)) hb); have n1_ := Aside0.mk (hbox); have n2_ := Aside0.mk ((by rw [hg]; exact (below_size (by repeat (first | (with_reducible first | exact HB.out | apply yA_ | apply yN_ | apply yD_) | exact HB.out))) : w.heap.size ≤ gb388)); have n3_ := Aside0.mk ((by rw [hg]; exact (below_size (by repeat (first | (with_reducible first | exact HB.out | apply yA_ | apply yN_ | apply yD_) | exact HB.out))) : w.heap.size ≤ gb388)); clear HB; have HB := n0_; have BK388 := n1_; have GW388 := n2_; have GE388 := n3_; clear n0_ n1_ n2_ n3_; clear hb hbox hg; have hcz26_0 : w25.cell? ⟨gb388, 0, none⟩ = some (.int .i64 0) := (xC_ BK388.out 0).trans rfl; have hcz26_1 : w25.cell? ⟨gb388, 1, none⟩ = some (.int .i64 0) := (xC_ BK388.out 1).trans rfl; have hcz26_2 : w25.cell? ⟨gb388, 2, none⟩ = some (.int .i64 0) := (xC_ BK388.out 2).trans rfl; have hcz26_3 : w25.cell? ⟨gb388, 3, none⟩ = some (.string (⟨#[]⟩ : ByteArray)) := (xC_ BK388.out 3).trans rfl; have hcz26_4 : w25.cell? ⟨gb388, 4, none⟩ = some (.string (⟨#[]⟩ : ByteArray)) := (xC_ BK388.out 4).trans rfl; have hfz26_0 := xF_ BK388.out 0; have hfz26_1 := xF_ BK388.out 1; have hfz26_2 := xF_ BK388.out 2; have hfz26_3 := xF_ BK388.out 3; have hfz26_4 := xF_ BK388.out 4; have p389 : 0 ≤ (x6_2 : Int) := of_decide_eq_true (by first | (with_reducible assumption) | assumption); have q389 : x6_2 < (l0.length : Int) := of_decide_eq_true (by first | (with_reducible assumption) | assumption); obtain ⟨ad389, e389, hx389_0, hx389_1, hx389_2, hx389_3, hx389_4⟩ := at_T23 HR0.out x6_2 p389 q389; obtain rfl : ad381 = ad389 := (by injection e389); have hn389_0 : ad381.block ≠ gb388 := Nat.ne_of_lt (Nat.lt_of_lt_of_le (by have := World.block_lt_of_cell? _ _ hx389_0; first | rwa [add_block] at this | exact this) GW388.out); have hn389_1 : ad381.block ≠ gb388 := Nat.ne_of_lt (Nat.lt_of_lt_of_le (by have := World.block_lt_of_cell? _ _ hx389_0; first | rwa [add_block] at this | exact this) GW388.out); have hn389_2 : ad381.block ≠ gb388 := Nat.ne_of_lt (Nat.lt_of_lt_of_le (by have := World.block_lt_of_cell? _ _ hx389_0; first | rwa [add_block] at this | exact this) GW388.out); have hn389_3 : ad381.block ≠ gb388 := Nat.ne_of_lt (Nat.lt_of_lt_of_le (by have := World.block_lt_of_cell? _ _ hx389_0; first | rwa [add_block] at this | exact this) GW388.out); have hn389_4 : ad381.block ≠ gb388 := Nat.ne_of_lt (Nat.lt_of_lt_of_le (by have := World.block_lt_of_cell? _ _ hx389_0; first | rwa [add_block] at this | exact this) GW388.out); replace hx389_0 := (HB.out.cell (World.block_lt_of_cell? w _ hx389_0)).trans hx389_0; replace hx389_1 := (HB.out.cell (World.block_lt_of_cell? w _ hx389_1)).trans hx389_1; replace hx389_2 := (HB.out.cell (World.block_lt_of_cell? w _ hx389_2)).trans hx389_2; replace hx389_3 := (HB.out.cell (World.block_lt_of_cell? w _ hx389_3)).trans hx389_3; replace hx389_4 := (HB.out.cell (World.block_lt_of_cell? w _ hx389_4)).trans hx389_4; replace hx389_0 := (cell_far (p := ⟨gb388, 0, none⟩) (by first | (rw [add_block]; exact hn389_0) | (show (Addr.add _ _).block ≠ _; rw [add_block]; exact hn389_0) | exact hn389_0) (.int .i64 t382)).trans hx389_0; replace hx389_1 := (cell_far (p := ⟨gb388, 0, none⟩) (by first | (rw [add_block]; exact hn389_0) | (show (Addr.add _ _).block ≠ _; rw [add_block]; exact hn389_0) | exact hn389_0) (.int .i64 t382)).trans hx389_1; replace hx389_2 := (cell_far (p := ⟨gb388, 0, none⟩) (by first | (rw [add_block]; exact hn389_0) | (show (Addr.add _ _).block ≠ _; rw [add_block]; exact hn389_0) | exact hn389_0) (.int .i64 t382)).trans hx389_2; replace hx389_3 := (cell_far (p := ⟨gb388, 0, none⟩) (by first | (rw [add_block]; exact hn389_0) | (show (Addr.add _ _).block ≠ _; rw [add_block]; exact hn389_0) | exact hn389_0) (.int .i64 t382)).trans hx389_3; replace hx389_4 := (cell_far (p := ⟨gb388, 0, none⟩) (by first | (rw [add_block]; exact hn389_0) | (show (Addr.add _ _).block ≠ _; rw [add_block]; exact hn389_0) | exact hn389_0) (.int .i64 t382)).trans hx389_4; replace hx389_0 := (cell_far (p := ⟨gb388, 1, none⟩) (by first | (rw [add_block]; exact hn389_1) | (show (Addr.add _ _).block ≠ _; rw [add_block]; exact hn389_1) | exact hn389_1) (.int .i64 t383)).trans hx389_0; replace hx389_1 := (cell_far (p := ⟨gb388, 1, none⟩) (by first | (rw [add_block]; exact hn389_1) | (show (Addr.add _ _).block ≠ _; rw [add_block]; exact hn389_1) | exact hn389_1) (.int .i64 t383)).trans hx389_1; replace hx389_2 := (cell_far (p := ⟨gb388, 1, none⟩) (by first | (rw [add_block]; exact hn389_1) | (show (Addr.add _ _).block ≠ _; rw [add_block]; exact hn389_1) | exact hn389_1) (.int .i64 t383)).trans hx389_2; replace hx389_3 := (cell_far (p := ⟨gb388, 1, none⟩) (by first | (rw [add_block]; exact hn389_1) | (show (Addr.add _ _).block ≠ _; rw [add_block]; exact hn389_1) | exact hn389_1) (.int .i64 t383)).trans hx389_3; replace hx389_4 := (cell_far (p := ⟨gb388, 1, none⟩) (by first | (rw [add_block]; exact hn389_1) | (show (Addr.add _ _).block ≠ _; rw [add_block]; exact hn389_1) | exact hn389_1) (.int .i64 t383)).trans hx389_4; replace hx389_0 := (cell_far (p := ⟨gb388, 2, none⟩) (by first | (rw [add_block]; exact hn389_2) | (show (Addr.add _ _).block ≠ _; rw [add_block]; exact hn389_2) | exact hn389_2) (.int .i64 t384)).trans hx389_0; replace hx389_1 := (cell_far (p := ⟨gb388, 2, none⟩) (by first | (rw [add_block]; exact hn389_2) | (show (Addr.add _ _).block ≠ _; rw [add_block]; exact hn389_2) | exact hn389_2) (.int .i64 t384)).trans hx389_1; replace hx389_2 := (cell_far (p := ⟨gb388, 2, none⟩) (by first | (rw [add_block]; exact hn389_2) | (show (Addr.add _ _).block ≠ _; rw [add_block]; exact hn389_2) | exact hn389_2) (.int .i64 t384)).trans hx389_2; replace hx389_3 := (cell_far (p := ⟨gb388, 2, none⟩) (by first | (rw [add_block]; exact hn389_2) | (show (Addr.add _ _).block ≠ _; rw [add_block]; exact hn389_2) | exact hn389_2) (.int .i64 t384)).trans hx389_3; replace hx389_4 := (cell_far (p := ⟨gb388, 2, none⟩) (by first | (rw [add_block]; exact hn389_2) | (show (Addr.add _ _).block ≠ _; rw [add_block]; exact hn389_2) | exact hn389_2) (.int .i64 t384)).trans hx389_4; replace hx389_0 := (cell_far (p := ⟨gb388, 3, none⟩) (by first | (rw [add_block]; exact hn389_3) | (show (Addr.add _ _).block ≠ _; rw [add_block]; exact hn389_3) | exact hn389_3) (.string t385)).trans hx389_0; replace hx389_1 := (cell_far (p := ⟨gb388, 3, none⟩) (by first | (rw [add_block]; exact hn389_3) | (show (Addr.add _ _).block ≠ _; rw [add_block]; exact hn389_3) | exact hn389_3) (.string t385)).trans hx389_1; replace hx389_2 := (cell_far (p := ⟨gb388, 3, none⟩) (by first | (rw [add_block]; exact hn389_3) | (show (Addr.add _ _).block ≠ _; rw [add_block]; exact hn389_3) | exact hn389_3) (.string t385)).trans hx389_2; replace hx389_3 := (cell_far (p := ⟨gb388, 3, none⟩) (by first | (rw [add_block]; exact hn389_3) | (show (Addr.add _ _).block ≠ _; rw [add_block]; exact hn389_3) | exact hn389_3) (.string t385)).trans hx389_3; replace hx389_4 := (cell_far (p := ⟨gb388, 3, none⟩) (by first | (rw [add_block]; exact hn389_3) | (show (Addr.add _ _).block ≠ _; rw [add_block]; exact hn389_3) | exact hn389_3) (.string t385)).trans hx389_4; replace hx389_0 := (cell_far (p := ⟨gb388, 4, none⟩) (by first | (rw [add_block]; exact hn389_4) | (show (Addr.add _ _).block ≠ _; rw [add_block]; exact hn389_4) | exact hn389_4) (.string t386)).trans hx389_0; replace hx389_1 := (cell_far (p := ⟨gb388, 4, none⟩) (by first | (rw [add_block]; exact hn389_4) | (show (Addr.add _ _).block ≠ _; rw [add_block]; exact hn389_4) | exact hn389_4) (.string t386)).trans hx389_1; replace hx389_2 := (cell_far (p := ⟨gb388, 4, none⟩) (by first | (rw [add_block]; exact hn389_4) | (show (Addr.add _ _).block ≠ _; rw [add_block]; exact hn389_4) | exact hn389_4) (.string t386)).trans hx389_2; replace hx389_3 := (cell_far (p := ⟨gb388, 4, none⟩) (by first | (rw [add_block]; exact hn389_4) | (show (Addr.add _ _).block ≠ _; rw [add_block]; exact hn389_4) | exact hn389_4) (.string t386)).trans hx389_3; replace hx389_4 := (cell_far (p := ⟨gb388, 4, none⟩) (by first | (rw [add_block]; exact hn389_4) | (show (Addr.add _ _).block ≠ _; rw [add_block]; exact hn389_4) | exact hn389_4) (.string t386)).trans hx389_4; clear hn389_0; clear hn389_1; clear hn389_2; clear hn389_3; clear hn389_4; replace p389 := eq_true p389; replace q389 := eq_true q389) | ((with_reducible refine gate_callee (f := 18) rfl ?_); refine goesL_ (some 63) rfl rfl Tryd.func18 (by kernel_rfl) rfl #[.agg #[.int .i64 ((rd_T23 l0 x6_2).f0), .int .i64 ((rd_T23 l0 x6_2).f1), .int .i64 ((rd_T23 l0 x6_2).f2), .string ((rd_T23 l0 x6_2).f3), .string ((rd_T23 l0 x6_2).f4)], .int .i64 a1] rfl (by (try simp only [List.map_toArray, List.map_cons, List.map_nil]); first | done | rfl) ?_; (with_reducible refine (armadaref07_Bump.calls k2 ((rd_T23 l0 x6_2).f0) ((rd_T23 l0 x6_2).f1) ((rd_T23 l0 x6_2).f2) ((rd_T23 l0 x6_2).f3) ((rd_T23 l0 x6_2).f4) a1 t390 t391 t392 t393 t394 t395 _ A17.out).mono ?_); rintro e w27 ⟨rfl, hb⟩; refine ⟨_, rfl, ?_⟩; have n0_ := Aside0.mk (blk_below (g := gb388) (o := .cells #[.int .i64 t382, .int .i64 t383, .int .i64 t384, .string t385, .string t386] 23 (0, 0)) (by (with_reducible repeat (first | apply xN_ | apply xD_ | apply xA_)); refine blk_put (cs := #[.int .i64 t382, .int .i64 t383, .int .i64 t384, .string t385, .string (⟨#[]⟩ : ByteArray)]) ?_ 4 _ rfl; refine blk_put (cs := #[.int .i64 t382, .int .i64 t383, .int .i64 t384, .string (⟨#[]⟩ : ByteArray), .string (⟨#[]⟩ : ByteArray)]) ?_ 3 _ rfl; refine blk_put (cs := #[.int .i64 t382, .int .i64 t383, .int .i64 0, .string (⟨#[]⟩ : ByteArray), .string (⟨#[]⟩ : ByteArray)]) ?_ 2 _ rfl; refine blk_put (cs := #[.int .i64 t382, .int .i64 0, .int .i64 0, .string (⟨#[]⟩ : ByteArray), .string (⟨#[]⟩ : ByteArray)]) ?_ 1 _ rfl; refine blk_put (cs := #[.int .i64 0, .int .i64 0, .int .i64 0, .string (⟨#[]⟩ : ByteArray), .string (⟨#[]⟩ : ByteArray)]) ?_ 0 _ rfl; (with_reducible repeat (first | apply xN_ | apply xD_ | apply xA_)); exact BK388.out) hb); have n1_ := Aside0.mk (below_step (by repeat (first | (with_reducible first | exact HB.out | apply yA_ | apply yN_ | apply yD_ | refine yS_ ?_ GE388.out) | exact HB.out)) hb); clear BK388; clear HB; have BK388 := n0_; have HB := n1_; clear n0_ n1_; (try clear hb); (try clear hb2); (try clear hk); (try clear hi)) | ((with_reducible refine gate_dst (N := 9) rfl ?_); (try (refine gate_guard (by rfl) ?_; dsimp only)); refine box_event ?hg (N := 9) ?hd (cs := #[.int .i64 0, .int .i64 0, .int .i64 0, .string (⟨#[]⟩ : ByteArray), .string (⟨#[]⟩ : ByteArray)]) (t := 23) ?hr ?_; (case hd => rfl); (case hg => rfl); (case hr => first | (go_simp; done) | (go_simp; rfl)); intro gb396 hg w28 hbox hb; have n0_ := Aside0.mk (blk_below (g := gb388) (o := .cells #[.int .i64 t382, .int .i64 t383, .int .i64 t384, .string t385, .string t386] 23 (0, 0)) (by (with_reducible repeat (first | apply xN_ | apply xD_ | apply xA_)); exact BK388.out) hb); have n1_ := Aside0.mk (below_step (by repeat (first | (with_reducible first | exact HB.out | apply yA_ | apply yN_ | apply yD_ | refine yS_ ?_ GE388.out) | exact HB.out)) hb); have n2_ := Aside0.mk (hbox); have n3_ := Aside0.mk ((by rw [hg]; exact (below_size (by repeat (first | (with_reducible first | exact HB.out | apply yA_ | apply yN_ | apply yD_ | refine yS_ ?_ GE388.out) | exact HB.out))) : w.heap.size ≤ gb396)); have n4_ := Aside0.mk ((by rw [hg]; exact (below_size (by repeat (first | (with_reducible first | exact HB.out | apply yA_ | apply yN_ | apply yD_ | refine yS_ ?_ GE388.out) | exact HB.out))) : w.heap.size ≤ gb396)); have n5_ := Aside0.mk ((by rw [hg]; exact Nat.ne_of_lt (blk_lt (g := gb388) (o := .cells #[.int .i64 t382, .int .i64 t383, .int .i64 t384, .string t385, .string t386] 23 (0, 0)) (by (with_reducible repeat (first | apply xN_ | apply xD_ | apply xA_)); exact BK388.out)) : gb388 ≠ gb396)); have n6_ := Aside0.mk ((by rw [hg]; exact Nat.ne_of_gt (blk_lt (g := gb388) (o := .cells #[.int .i64 t382, .int .i64 t383, .int .i64 t384, .string t385, .string t386] 23 (0, 0)) (by (with_reducible repeat (first | apply xN_ | apply xD_ | apply xA_)); exact BK388.out)) : gb396 ≠ gb388)); clear BK388; clear HB; have BK388 := n0_; have HB := n1_; have BK396 := n2_; have GW396 := n3_; have GE396 := n4_; have NB388_396 := n5_; have NB396_388 := n6_; clear n0_ n1_ n2_ n3_ n4_ n5_ n6_; clear hb hbox hg; have hnb29 := NB396_388.out; have hnc29 := NB388_396.out; have hcz30_0 : w28.cell? ⟨gb396, 0, none⟩ = some (.int .i64 0) := (xC_ BK396.out 0).trans rfl; have hcz30_1 : w28.cell? ⟨gb396, 1, none⟩ = some (.int .i64 0) := (xC_ BK396.out 1).trans rfl; have hcz30_2 : w28.cell? ⟨gb396, 2, none⟩ = some (.int .i64 0) := (xC_ BK396.out 2).trans rfl; have hcz30_3 : w28.cell? ⟨gb396, 3, none⟩ = some (.string (⟨#[]⟩ : ByteArray)) := (xC_ BK396.out 3).trans rfl; have hcz30_4 : w28.cell? ⟨gb396, 4, none⟩ = some (.string (⟨#[]⟩ : ByteArray)) := (xC_ BK396.out 4).trans rfl; have hfz30_0 := xF_ BK396.out 0; have hfz30_1 := xF_ BK396.out 1; have hfz30_2 := xF_ BK396.out 2; have hfz30_3 := xF_ BK396.out 3; have hfz30_4 := xF_ BK396.out 4))
             have n0_ : Aside0 ((((((w28.setCell ⟨gb396, 0, none⟩ (.int .i64 t390)).setCell ⟨gb396, 1, none⟩ (.int .i64 t391)).setCell ⟨gb396, 2, none⟩ (.int .i64 t392)).setCell ⟨gb396, 3, none⟩ (.string t393)).setCell ⟨gb396, 4, none⟩ (.string t394)).heap[gb388]? = some (.cells #[.int .i64 t382, .int .i64 t383, .int .i64 t384, .string t385, .string t386] 23 (0, 0))) := ⟨by (with_reducible repeat (first | apply xN_ | apply xD_ | apply xA_)); refine xR_ ?_ NB388_396.out _; refine xR_ ?_ NB388_396.out _; refine xR_ ?_ NB388_396.out _; refine xR_ ?_ NB388_396.out _; refine xR_ ?_ NB388_396.out _; (with_reducible repeat (first | apply xN_ | apply xD_ | apply xA_)); exact BK388.out⟩
             have n1_ : Aside0 ((((((w28.setCell ⟨gb396, 0, none⟩ (.int .i64 t390)).setCell ⟨gb396, 1, none⟩ (.int .i64 t391)).setCell ⟨gb396, 2, none⟩ (.int .i64 t392)).setCell ⟨gb396, 3, none⟩ (.string t393)).setCell ⟨gb396, 4, none⟩ (.string t394)).heap[gb396]? = some (.cells #[.int .i64 t390, .int .i64 t391, .int .i64 t392, .string t393, .string t394] 23 (0, 0))) := ⟨by (with_reducible repeat (first | apply xN_ | apply xD_ | apply xA_)); refine blk_put (cs := #[.int .i64 t390, .int .i64 t391, .int .i64 t392, .string t393, .string (⟨#[]⟩ : ByteArray)]) ?_ 4 _ rfl; refine blk_put (cs := #[.int .i64 t390, .int .i64 t391, .int .i64 t392, .string (⟨#[]⟩ : ByteArray), .string (⟨#[]⟩ : ByteArray)]) ?_ 3 _ rfl; refine blk_put (cs := #[.int .i64 t390, .int .i64 t391, .int .i64 0, .string (⟨#[]⟩ : ByteArray), .string (⟨#[]⟩ : ByteArray)]) ?_ 2 _ rfl; refine blk_put (cs := #[.int .i64 t390, .int .i64 0, .int .i64 0, .string (⟨#[]⟩ : ByteArray), .string (⟨#[]⟩ : ByteArray)]) ?_ 1 _ rfl; refine blk_put (cs := #[.int .i64 0, .int .i64 0, .int .i64 0, .string (⟨#[]⟩ : ByteArray), .string (⟨#[]⟩ : ByteArray)]) ?_ 0 _ rfl; (with_reducible repeat (first | apply xN_ | apply xD_ | apply xA_)); exact BK396.out⟩
             have n2_ : Aside0 (Below w.heap.size w (((((w28.setCell ⟨gb396, 0, none⟩ (.int .i64 t390)).setCell ⟨gb396, 1, none⟩ (.int .i64 t391)).setCell ⟨gb396, 2, none⟩ (.int .i64 t392)).setCell ⟨gb396, 3, none⟩ (.string t393)).setCell ⟨gb396, 4, none⟩ (.string t394))) := ⟨by repeat (first | (with_reducible first | exact HB.out | apply yA_ | apply yN_ | apply yD_ | refine yS_ ?_ GE388.out | refine yS_ ?_ GE396.out) | exact HB.out)⟩
             (try clear BK388)
             (try clear BK396)
             (try clear HB)
             generalize (((((w28.setCell ⟨gb396, 0, none⟩ (.int .i64 t390)).setCell ⟨gb396, 1, none⟩ (.int .i64 t391)).setCell ⟨gb396, 2, none⟩ (.int .i64 t392)).setCell ⟨gb396, 3, none⟩ (.string t393)).setCell ⟨gb396, 4, none⟩ (.string t394)) = w31 at n0_ n1_ n2_ ⊢
             have BK388 := n0_
             have BK396 := n1_
             have HB := n2_
             clear n0_ n1_ n2_
             have n0_ := Aside0.mk (xD_ BK388.out)
             have n1_ := Aside0.mk (xD_ BK396.out)
             have n2_ := Aside0.mk (yD_ HB.out)
             clear BK388
             clear BK396
             clear HB
             have BK388 := n0_
             have BK396 := n1_
             have HB := n2_
             clear n0_ n1_ n2_
             have p397 : 0 ≤ (0 : Int) := (by omega)
             have q397 : 0 < (l0.length : Int) := of_decide_eq_true (by first | (with_reducible assumption) | assumption)
             obtain ⟨ad397, e397, hx397_0, hx397_1, hx397_2, hx397_3, hx397_4⟩ := at_T23 HR0.out 0 p397 q397
             have hw397_4 := hx397_4
             (try rw [show ((0 : Int)).toNat = 0 from rfl] at hw397_4)
             (try rw [show 0 * 5 = 0 from rfl] at hw397_4)
             (try rw [Addr.add_zero'] at hw397_4)
             have hw397_3 := hx397_3
             (try rw [show ((0 : Int)).toNat = 0 from rfl] at hw397_3)
             (try rw [show 0 * 5 = 0 from rfl] at hw397_3)
             (try rw [Addr.add_zero'] at hw397_3)
             have hw397_2 := hx397_2
             (try rw [show ((0 : Int)).toNat = 0 from rfl] at hw397_2)
             (try rw [show 0 * 5 = 0 from rfl] at hw397_2)
             (try rw [Addr.add_zero'] at hw397_2)
             have hw397_1 := hx397_1
             (try rw [show ((0 : Int)).toNat = 0 from rfl] at hw397_1)
             (try rw [show 0 * 5 = 0 from rfl] at hw397_1)
             (try rw [Addr.add_zero'] at hw397_1)
             have hw397_0 := hx397_0
             (try rw [show ((0 : Int)).toNat = 0 from rfl] at hw397_0)
             (try rw [show 0 * 5 = 0 from rfl] at hw397_0)
             (try rw [Addr.add_zero'] at hw397_0)
             obtain rfl : ad381 = ad397 := (by injection e397)
             have qi397 : (0 < l0.length) = True := eq_true (by omega)
             (try rw [show ((0 : Int)).toNat = 0 from rfl] at hx397_0)
             (try rw [show 0 * 5 = 0 from rfl] at hx397_0)
             (try rw [Addr.add_zero'] at hx397_0)
             (try rw [show ((0 : Int)).toNat = 0 from rfl] at hx397_1)
             (try rw [show 0 * 5 = 0 from rfl] at hx397_1)
             (try rw [Addr.add_zero'] at hx397_1)
             (try rw [show ((0 : Int)).toNat = 0 from rfl] at hx397_2)
             (try rw [show 0 * 5 = 0 from rfl] at hx397_2)
             (try rw [Addr.add_zero'] at hx397_2)
             (try rw [show ((0 : Int)).toNat = 0 from rfl] at hx397_3)
             (try rw [show 0 * 5 = 0 from rfl] at hx397_3)
             (try rw [Addr.add_zero'] at hx397_3)
             (try rw [show ((0 : Int)).toNat = 0 from rfl] at hx397_4)
             (try rw [show 0 * 5 = 0 from rfl] at hx397_4)
             (try rw [Addr.add_zero'] at hx397_4)
             replace hx397_0 := (HB.out.cell (World.block_lt_of_cell? w _ hx397_0)).trans hx397_0
             replace hx397_1 := (HB.out.cell (World.block_lt_of_cell? w _ hx397_1)).trans hx397_1
             replace hx397_2 := (HB.out.cell (World.block_lt_of_cell? w _ hx397_2)).trans hx397_2
             replace hx397_3 := (HB.out.cell (World.block_lt_of_cell? w _ hx397_3)).trans hx397_3
             replace hx397_4 := (HB.out.cell (World.block_lt_of_cell? w _ hx397_4)).trans hx397_4
             replace p397 := eq_true p397
             replace q397 := eq_true q397
             have p398 : 0 ≤ (x6_2 : Int) := of_decide_eq_true (by first | (with_reducible assumption) | assumption)
             have q398 : x6_2 < (l0.length : Int) := of_decide_eq_true (by first | (with_reducible assumption) | assumption)
             obtain ⟨ad398, e398, hx398_0, hx398_1, hx398_2, hx398_3, hx398_4⟩ := at_T23 HR0.out x6_2 p398 q398
             have hw398_4 := hx398_4
             have hw398_3 := hx398_3
             have hw398_2 := hx398_2
             have hw398_1 := hx398_1
             have hw398_0 := hx398_0
             obtain rfl : ad381 = ad398 := (by injection e398)
             replace hx398_0 := (HB.out.cell (World.block_lt_of_cell? w _ hx398_0)).trans hx398_0
             replace hx398_1 := (HB.out.cell (World.block_lt_of_cell? w _ hx398_1)).trans hx398_1
             replace hx398_2 := (HB.out.cell (World.block_lt_of_cell? w _ hx398_2)).trans hx398_2
             replace hx398_3 := (HB.out.cell (World.block_lt_of_cell? w _ hx398_3)).trans hx398_3
             replace hx398_4 := (HB.out.cell (World.block_lt_of_cell? w _ hx398_4)).trans hx398_4
             replace p398 := eq_true p398
             replace q398 := eq_true q398
             have p400 : 0 ≤ (0 : Int) := (by omega)
             have q400 : 0 < (l0.length : Int) := of_decide_eq_true (by first | (with_reducible assumption) | assumption)
             obtain ⟨ad400, e400, hx400_0, hx400_1, hx400_2, hx400_3, hx400_4⟩ := at_T23 HR0.out 0 p400 q400
             have hw400_4 := hx400_4
             (try rw [show ((0 : Int)).toNat = 0 from rfl] at hw400_4)
             (try rw [show 0 * 5 = 0 from rfl] at hw400_4)
             (try rw [Addr.add_zero'] at hw400_4)
             have hw400_3 := hx400_3
             (try rw [show ((0 : Int)).toNat = 0 from rfl] at hw400_3)
             (try rw [show 0 * 5 = 0 from rfl] at hw400_3)
             (try rw [Addr.add_zero'] at hw400_3)
             have hw400_2 := hx400_2
             (try rw [show ((0 : Int)).toNat = 0 from rfl] at hw400_2)
             (try rw [show 0 * 5 = 0 from rfl] at hw400_2)
             (try rw [Addr.add_zero'] at hw400_2)
             have hw400_1 := hx400_1
             (try rw [show ((0 : Int)).toNat = 0 from rfl] at hw400_1)
             (try rw [show 0 * 5 = 0 from rfl] at hw400_1)
             (try rw [Addr.add_zero'] at hw400_1)
             have hw400_0 := hx400_0
             (try rw [show ((0 : Int)).toNat = 0 from rfl] at hw400_0)
             (try rw [show 0 * 5 = 0 from rfl] at hw400_0)
             (try rw [Addr.add_zero'] at hw400_0)
             obtain rfl : ad381 = ad400 := (by injection e400)
             have qi400 : (0 < l0.length) = True := eq_true (by omega)
             (try rw [show ((0 : Int)).toNat = 0 from rfl] at hx400_0)
             (try rw [show 0 * 5 = 0 from rfl] at hx400_0)
             (try rw [Addr.add_zero'] at hx400_0)
             (try rw [show ((0 : Int)).toNat = 0 from rfl] at hx400_1)
             (try rw [show 0 * 5 = 0 from rfl] at hx400_1)
             (try rw [Addr.add_zero'] at hx400_1)
             (try rw [show ((0 : Int)).toNat = 0 from rfl] at hx400_2)
             (try rw [show 0 * 5 = 0 from rfl] at hx400_2)
             (try rw [Addr.add_zero'] at hx400_2)
             (try rw [show ((0 : Int)).toNat = 0 from rfl] at hx400_3)
             (try rw [show 0 * 5 = 0 from rfl] at hx400_3)
             (try rw [Addr.add_zero'] at hx400_3)
             (try rw [show ((0 : Int)).toNat = 0 from rfl] at hx400_4)
             (try rw [show 0 * 5 = 0 from rfl] at hx400_4)
             (try rw [Addr.add_zero'] at hx400_4)
             replace hx400_0 := (HB.out.cell (World.block_lt_of_cell? w _ hx400_0)).trans hx400_0
             replace hx400_1 := (HB.out.cell (World.block_lt_of_cell? w _ hx400_1)).trans hx400_1
             replace hx400_2 := (HB.out.cell (World.block_lt_of_cell? w _ hx400_2)).trans hx400_2
             replace hx400_3 := (HB.out.cell (World.block_lt_of_cell? w _ hx400_3)).trans hx400_3
             replace hx400_4 := (HB.out.cell (World.block_lt_of_cell? w _ hx400_4)).trans hx400_4
             replace p400 := eq_true p400
             replace q400 := eq_true q400
             have p401 : 0 ≤ (x6_2 : Int) := of_decide_eq_true (by first | (with_reducible assumption) | assumption)
             have q401 : x6_2 < (l0.length : Int) := of_decide_eq_true (by first | (with_reducible assumption) | assumption)
             obtain ⟨ad401, e401, hx401_0, hx401_1, hx401_2, hx401_3, hx401_4⟩ := at_T23 HR0.out x6_2 p401 q401
             have hw401_4 := hx401_4
             have hw401_3 := hx401_3
             have hw401_2 := hx401_2
             have hw401_1 := hx401_1
             have hw401_0 := hx401_0
             obtain rfl : ad381 = ad401 := (by injection e401)
             replace hx401_0 := (HB.out.cell (World.block_lt_of_cell? w _ hx401_0)).trans hx401_0
             replace hx401_1 := (HB.out.cell (World.block_lt_of_cell? w _ hx401_1)).trans hx401_1
             replace hx401_2 := (HB.out.cell (World.block_lt_of_cell? w _ hx401_2)).trans hx401_2
             replace hx401_3 := (HB.out.cell (World.block_lt_of_cell? w _ hx401_3)).trans hx401_3
             replace hx401_4 := (HB.out.cell (World.block_lt_of_cell? w _ hx401_4)).trans hx401_4
             replace p401 := eq_true p401
             replace q401 := eq_true q401
             refine start_ (n := 27) (S := fun w' => w'.cell? ⟨gb388, 0, none⟩ = some (.int .i64 t382) ∧ w'.cell? ⟨gb388, 1, none⟩ = some (.int .i64 t383) ∧ w'.cell? ⟨gb388, 2, none⟩ = some (.int .i64 t384) ∧ w'.cell? ⟨gb388, 3, none⟩ = some (.string t385) ∧ w'.cell? ⟨gb388, 4, none⟩ = some (.string t386) ∧ w'.cell? ⟨gb396, 0, none⟩ = some (.int .i64 t390) ∧ w'.cell? ⟨gb396, 1, none⟩ = some (.int .i64 t391) ∧ w'.cell? ⟨gb396, 2, none⟩ = some (.int .i64 t392) ∧ w'.cell? ⟨gb396, 3, none⟩ = some (.string t393) ∧ w'.cell? ⟨gb396, 4, none⟩ = some (.string t394) ∧ w'.cell? ad381 = some (.int .i64 ((rd_T23 l0 0).f0)) ∧ w'.cell? ⟨ad381.block, ad381.off + 1, none⟩ = some (.int .i64 ((rd_T23 l0 0).f1)) ∧ w'.cell? ⟨ad381.block, ad381.off + 2, none⟩ = some (.int .i64 ((rd_T23 l0 0).f2)) ∧ w'.cell? ⟨ad381.block, ad381.off + 3, none⟩ = some (.string ((rd_T23 l0 0).f3)) ∧ w'.cell? ⟨ad381.block, ad381.off + 4, none⟩ = some (.string ((rd_T23 l0 0).f4)) ∧ w'.cell? (ad381.add ((x6_2).toNat * 5)) = some (.int .i64 ((rd_T23 l0 x6_2).f0)) ∧ w'.cell? ⟨(ad381.add ((x6_2).toNat * 5)).block, (ad381.add ((x6_2).toNat * 5)).off + 1, none⟩ = some (.int .i64 ((rd_T23 l0 x6_2).f1)) ∧ w'.cell? ⟨(ad381.add ((x6_2).toNat * 5)).block, (ad381.add ((x6_2).toNat * 5)).off + 2, none⟩ = some (.int .i64 ((rd_T23 l0 x6_2).f2)) ∧ w'.cell? ⟨(ad381.add ((x6_2).toNat * 5)).block, (ad381.add ((x6_2).toNat * 5)).off + 3, none⟩ = some (.string ((rd_T23 l0 x6_2).f3)) ∧ w'.cell? ⟨(ad381.add ((x6_2).toNat * 5)).block, (ad381.add ((x6_2).toNat * 5)).off + 4, none⟩ = some (.string ((rd_T23 l0 x6_2).f4)) ∧ w'.cell? ad381 = some (.int .i64 ((rd_T23 l0 0).f0)) ∧ w'.cell? ⟨ad381.block, ad381.off + 1, none⟩ = some (.int .i64 ((rd_T23 l0 0).f1)) ∧ w'.cell? ⟨ad381.block, ad381.off + 2, none⟩ = some (.int .i64 ((rd_T23 l0 0).f2)) ∧ w'.cell? ⟨ad381.block, ad381.off + 3, none⟩ = some (.string ((rd_T23 l0 0).f3)) ∧ w'.cell? ⟨ad381.block, ad381.off + 4, none⟩ = some (.string ((rd_T23 l0 0).f4)) ∧ w'.cell? (ad381.add ((x6_2).toNat * 5)) = some (.int .i64 ((rd_T23 l0 x6_2).f0)) ∧ w'.cell? ⟨(ad381.add ((x6_2).toNat * 5)).block, (ad381.add ((x6_2).toNat * 5)).off + 1, none⟩ = some (.int .i64 ((rd_T23 l0 x6_2).f1)) ∧ w'.cell? ⟨(ad381.add ((x6_2).toNat * 5)).block, (ad381.add ((x6_2).toNat * 5)).off + 2, none⟩ = some (.int .i64 ((rd_T23 l0 x6_2).f2)) ∧ w'.cell? ⟨(ad381.add ((x6_2).toNat * 5)).block, (ad381.add ((x6_2).toNat * 5)).off + 3, none⟩ = some (.string ((rd_T23 l0 x6_2).f3)) ∧ w'.cell? ⟨(ad381.add ((x6_2).toNat * 5)).block, (ad381.add ((x6_2).toNat * 5)).off + 4, none⟩ = some (.string ((rd_T23 l0 x6_2).f4))) (ds := []) #[false, false, false, false, false, false, false, false, false, false, false, false, false, false, false, false, false, false, false, false, false, false, false, false, false, false, false] (by kernel_rfl) rfl rfl ⟨(xC_ BK388.out 0).trans rfl, (xC_ BK388.out 1).trans rfl, (xC_ BK388.out 2).trans rfl, (xC_ BK388.out 3).trans rfl, (xC_ BK388.out 4).trans rfl, (xC_ BK396.out 0).trans rfl, (xC_ BK396.out 1).trans rfl, (xC_ BK396.out 2).trans rfl, (xC_ BK396.out 3).trans rfl, (xC_ BK396.out 4).trans rfl, ((HB.out.cell (World.block_lt_of_cell? w _ hw397_0)).trans hw397_0), ((HB.out.cell (World.block_lt_of_cell? w _ hw397_1)).trans hw397_1), ((HB.out.cell (World.block_lt_of_cell? w _ hw397_2)).trans hw397_2), ((HB.out.cell (World.block_lt_of_cell? w _ hw397_3)).trans hw397_3), ((HB.out.cell (World.block_lt_of_cell? w _ hw397_4)).trans hw397_4), ((HB.out.cell (World.block_lt_of_cell? w _ hw398_0)).trans hw398_0), ((HB.out.cell (World.block_lt_of_cell? w _ hw398_1)).trans hw398_1), ((HB.out.cell (World.block_lt_of_cell? w _ hw398_2)).trans hw398_2), ((HB.out.cell (World.block_lt_of_cell? w _ hw398_3)).trans hw398_3), ((HB.out.cell (World.block_lt_of_cell? w _ hw398_4)).trans hw398_4), ((HB.out.cell (World.block_lt_of_cell? w _ hw400_0)).trans hw400_0), ((HB.out.cell (World.block_lt_of_cell? w _ hw400_1)).trans hw400_1), ((HB.out.cell (World.block_lt_of_cell? w _ hw400_2)).trans hw400_2), ((HB.out.cell (World.block_lt_of_cell? w _ hw400_3)).trans hw400_3), ((HB.out.cell (World.block_lt_of_cell? w _ hw400_4)).trans hw400_4), ((HB.out.cell (World.block_lt_of_cell? w _ hw401_0)).trans hw401_0), ((HB.out.cell (World.block_lt_of_cell? w _ hw401_1)).trans hw401_1), ((HB.out.cell (World.block_lt_of_cell? w _ hw401_2)).trans hw401_2), ((HB.out.cell (World.block_lt_of_cell? w _ hw401_3)).trans hw401_3), ((HB.out.cell (World.block_lt_of_cell? w _ hw401_4)).trans hw401_4)⟩ (fun hHeld => ?_); refine with_tabW armadalaw07_VerOrder.tab13 armadalaw07_VerOrder.bits13 (fun HT_ HW_ => ?_)
             generalize w31.drew = w32 at BK388 BK396 HB hx397_0 hx397_1 hx397_2 hx397_3 hx397_4 hx398_0 hx398_1 hx398_2 hx398_3 hx398_4 hx400_0 hx400_1 hx400_2 hx400_3 hx400_4 hx401_0 hx401_1 hx401_2 hx401_3 hx401_4 hHeld ⊢
             refine take_ (i := 0) (N := some 66) (v := ?_) (a' := ?_) #[true, false, false, false, false, false, false, false, false, false, false, false, false, false, false, false, false, false, false, false, false, false, false, false, false, false, false] rfl rfl (take_ofW HT_.out HW_.out (by kernel_rfl)) (fun _ _ _ h => h) (Or.inl ⟨by rfl, ?_⟩) hHeld ?_ ?_
             rotate_left
             ·rintro w' ⟨s0, s1, s2, s3, s4, s5, s6, s7, s8, s9, s10, s11, s12, s13, s14, s15, s16, s17, s18, s19, s20, s21, s22, s23, s24, s25, s26, s27, s28, s29⟩
              go_simp
              with_reducible rfl
             rotate_left
             ·simp only [Act.put, List.setIfInBounds_toArray, List.set_cons_zero, List.set_cons_succ, i64_w, i32_w]
              rfl
             refine take_ (i := 1) (N := some 67) (v := ?_) (a' := ?_) #[true, true, false, false, false, false, false, false, false, false, false, false, false, false, false, false, false, false, false, false, false, false, false, false, false, false, false] rfl rfl (take_ofW HT_.out HW_.out (by kernel_rfl)) (fun _ _ _ h => h) (Or.inl ⟨by rfl, ?_⟩) hHeld ?_ ?_
             rotate_left
             ·rintro w' ⟨s0, s1, s2, s3, s4, s5, s6, s7, s8, s9, s10, s11, s12, s13, s14, s15, s16, s17, s18, s19, s20, s21, s22, s23, s24, s25, s26, s27, s28, s29⟩
              go_simp
              with_reducible rfl
             rotate_left
             ·simp only [Act.put, List.setIfInBounds_toArray, List.set_cons_zero, List.set_cons_succ, i64_w, i32_w]
              rfl
             refine pure_ (i := 2) (N := some 68) (v := ?_) (a' := ?_) #[true, true, true, false, false, false, false, false, false, false, false, false, false, false, false, false, false, false, false, false, false, false, false, false, false, false, false] rfl rfl (any_of HT_.out (by kernel_rfl)) (fun _ _ _ h => h) (Or.inl ⟨by rfl, ?_⟩) ?_ ?_
             rotate_left
             ·intro w'
              go_simp
              with_reducible rfl
             rotate_left
             ·simp only [Act.put, List.setIfInBounds_toArray, List.set_cons_zero, List.set_cons_succ, i64_w, i32_w]
              rfl
             refine pure_ (i := 3) (N := some 69) (v := ?_) (a' := ?_) #[true, true, true, true, false, false, false, false, false, false, false, false, false, false, false, false, false, false, false, false, false, false, false, false, false, false, false] rfl rfl (any_of HT_.out (by kernel_rfl)) (fun _ _ _ h => h) (Or.inl ⟨by rfl, ?_⟩) ?_ ?_
             rotate_left
             ·intro w'
              go_simp
              with_reducible rfl
             rotate_left
             ·simp only [Act.put, List.setIfInBounds_toArray, List.set_cons_zero, List.set_cons_succ, i64_w, i32_w]
              rfl
             refine pure_ (i := 4) (N := some 70) (v := ?_) (a' := ?_) #[true, true, true, true, true, false, false, false, false, false, false, false, false, false, false, false, false, false, false, false, false, false, false, false, false, false, false] rfl rfl (any_of HT_.out (by kernel_rfl)) (fun _ _ _ h => h) (Or.inl ⟨by rfl, ?_⟩) ?_ ?_
             rotate_left
             ·intro w'
              go_simp
              with_reducible rfl
             rotate_left
             ·simp only [Act.put, List.setIfInBounds_toArray, List.set_cons_zero, List.set_cons_succ, i64_w, i32_w]
              rfl
             refine pure_ (i := 5) (N := some 71) (v := ?_) (a' := ?_) #[true, true, true, true, true, true, false, false, false, false, false, false, false, false, false, false, false, false, false, false, false, false, false, false, false, false, false] rfl rfl (any_of HT_.out (by kernel_rfl)) (fun _ _ _ h => h) (Or.inl ⟨by rfl, ?_⟩) ?_ ?_
             rotate_left
             ·intro w'
              go_simp
              with_reducible rfl
             rotate_left
             ·simp only [Act.put, List.setIfInBounds_toArray, List.set_cons_zero, List.set_cons_succ, i64_w, i32_w]
              rfl
             refine pure_ (i := 6) (N := some 72) (v := ?_) (a' := ?_) #[true, true, true, true, true, true, true, false, false, false, false, false, false, false, false, false, false, false, false, false, false, false, false, false, false, false, false] rfl rfl (any_of HT_.out (by kernel_rfl)) (fun _ _ _ h => h) (Or.inl ⟨by rfl, ?_⟩) ?_ ?_
             rotate_left
             ·intro w'
              go_simp
              with_reducible rfl
             rotate_left
             ·simp only [Act.put, List.setIfInBounds_toArray, List.set_cons_zero, List.set_cons_succ, i64_w, i32_w]
              rfl
             refine pure_ (i := 7) (N := some 73) (v := ?_) (a' := ?_) #[true, true, true, true, true, true, true, true, false, false, false, false, false, false, false, false, false, false, false, false, false, false, false, false, false, false, false] rfl rfl (any_of HT_.out (by kernel_rfl)) (fun _ _ _ h => h) (Or.inl ⟨by rfl, ?_⟩) ?_ ?_
             rotate_left
             ·intro w'
              go_simp
              with_reducible rfl
             rotate_left
             ·simp only [Act.put, List.setIfInBounds_toArray, List.set_cons_zero, List.set_cons_succ, i64_w, i32_w]
              rfl
             refine pure_ (i := 8) (N := some 74) (v := ?_) (a' := ?_) #[true, true, true, true, true, true, true, true, true, false, false, false, false, false, false, false, false, false, false, false, false, false, false, false, false, false, false] rfl rfl (any_of HT_.out (by kernel_rfl)) (fun _ _ _ h => h) (Or.inl ⟨by rfl, ?_⟩) ?_ ?_
             rotate_left
             ·intro w'
              go_simp
              with_reducible rfl
             rotate_left
             ·simp only [Act.put, List.setIfInBounds_toArray, List.set_cons_zero, List.set_cons_succ, i64_w, i32_w]
              rfl
             refine pure_ (i := 9) (N := some 75) (v := ?_) (a' := ?_) #[true, true, true, true, true, true, true, true, true, true, false, false, false, false, false, false, false, false, false, false, false, false, false, false, false, false, false] rfl rfl (any_of HT_.out (by kernel_rfl)) (fun _ _ _ h => h) (Or.inl ⟨by rfl, ?_⟩) ?_ ?_
             rotate_left
             ·intro w'
              go_simp
              with_reducible rfl
             rotate_left
             ·simp only [Act.put, List.setIfInBounds_toArray, List.set_cons_zero, List.set_cons_succ, i64_w, i32_w]
              rfl
             refine pure_ (i := 10) (N := some 76) (v := ?_) (a' := ?_) #[true, true, true, true, true, true, true, true, true, true, true, false, false, false, false, false, false, false, false, false, false, false, false, false, false, false, false] rfl rfl (any_of HT_.out (by kernel_rfl)) (fun _ _ _ h => h) (Or.inl ⟨by rfl, ?_⟩) ?_ ?_
             rotate_left
             ·intro w'
              go_simp
              with_reducible rfl
             rotate_left
             ·simp only [Act.put, List.setIfInBounds_toArray, List.set_cons_zero, List.set_cons_succ, i64_w, i32_w]
              rfl
             refine pure_ (i := 12) (N := some 78) (v := ?_) (a' := ?_) #[true, true, true, true, true, true, true, true, true, true, true, false, true, false, false, false, false, false, false, false, false, false, false, false, false, false, false] rfl rfl (any_of HT_.out (by kernel_rfl)) (fun _ _ _ h => h) (Or.inl ⟨by rfl, ?_⟩) ?_ ?_
             rotate_left
             ·intro w'
              go_simp
              with_reducible rfl
             rotate_left
             ·simp only [Act.put, List.setIfInBounds_toArray, List.set_cons_zero, List.set_cons_succ, i64_w, i32_w]
              rfl
             refine pure_ (i := 13) (N := some 79) (v := ?_) (a' := ?_) #[true, true, true, true, true, true, true, true, true, true, true, false, true, true, false, false, false, false, false, false, false, false, false, false, false, false, false] rfl rfl (any_of HT_.out (by kernel_rfl)) (fun _ _ _ h => h) (Or.inl ⟨by rfl, ?_⟩) ?_ ?_
             rotate_left
             ·intro w'
              go_simp
              with_reducible rfl
             rotate_left
             ·simp only [Act.put, List.setIfInBounds_toArray, List.set_cons_zero, List.set_cons_succ, i64_w, i32_w]
              rfl
             refine pure_ (i := 14) (N := some 80) (v := ?_) (a' := ?_) #[true, true, true, true, true, true, true, true, true, true, true, false, true, true, true, false, false, false, false, false, false, false, false, false, false, false, false] rfl rfl (any_of HT_.out (by kernel_rfl)) (fun _ _ _ h => h) (Or.inl ⟨by rfl, ?_⟩) ?_ ?_
             rotate_left
             ·intro w'
              go_simp
              with_reducible rfl
             rotate_left
             ·simp only [Act.put, List.setIfInBounds_toArray, List.set_cons_zero, List.set_cons_succ, i64_w, i32_w]
              rfl
             refine pure_ (i := 17) (N := some 83) (v := ?_) (a' := ?_) #[true, true, true, true, true, true, true, true, true, true, true, false, true, true, true, false, false, true, false, false, false, false, false, false, false, false, false] rfl rfl (any_of HT_.out (by kernel_rfl)) (fun _ _ _ h => h) (Or.inl ⟨by rfl, ?_⟩) ?_ ?_
             rotate_left
             ·intro w'
              go_simp
              with_reducible rfl
             rotate_left
             ·simp only [Act.put, List.setIfInBounds_toArray, List.set_cons_zero, List.set_cons_succ, i64_w, i32_w]
              rfl
             refine pure_ (i := 18) (N := some 84) (v := ?_) (a' := ?_) #[true, true, true, true, true, true, true, true, true, true, true, false, true, true, true, false, false, true, true, false, false, false, false, false, false, false, false] rfl rfl (any_of HT_.out (by kernel_rfl)) (fun _ _ _ h => h) (Or.inl ⟨by rfl, ?_⟩) ?_ ?_
             rotate_left
             ·intro w'
              go_simp
              with_reducible rfl
             rotate_left
             ·simp only [Act.put, List.setIfInBounds_toArray, List.set_cons_zero, List.set_cons_succ, i64_w, i32_w]
              rfl
             refine pure_ (i := 20) (N := some 86) (v := ?_) (a' := ?_) #[true, true, true, true, true, true, true, true, true, true, true, false, true, true, true, false, false, true, true, false, true, false, false, false, false, false, false] rfl rfl (any_of HT_.out (by kernel_rfl)) (fun _ _ _ h => h) (Or.inl ⟨by rfl, ?_⟩) ?_ ?_
             rotate_left
             ·intro w'
              go_simp
              with_reducible rfl
             rotate_left
             ·simp only [Act.put, List.setIfInBounds_toArray, List.set_cons_zero, List.set_cons_succ, i64_w, i32_w]
              rfl
             refine pure_ (i := 21) (N := some 87) (v := ?_) (a' := ?_) #[true, true, true, true, true, true, true, true, true, true, true, false, true, true, true, false, false, true, true, false, true, true, false, false, false, false, false] rfl rfl (any_of HT_.out (by kernel_rfl)) (fun _ _ _ h => h) (Or.inl ⟨by rfl, ?_⟩) ?_ ?_
             rotate_left
             ·intro w'
              go_simp
              with_reducible rfl
             rotate_left
             ·simp only [Act.put, List.setIfInBounds_toArray, List.set_cons_zero, List.set_cons_succ, i64_w, i32_w]
              rfl
             refine pure_ (i := 22) (N := some 88) (v := ?_) (a' := ?_) #[true, true, true, true, true, true, true, true, true, true, true, false, true, true, true, false, false, true, true, false, true, true, true, false, false, false, false] rfl rfl (any_of HT_.out (by kernel_rfl)) (fun _ _ _ h => h) (Or.inl ⟨by rfl, ?_⟩) ?_ ?_
             rotate_left
             ·intro w'
              go_simp
              with_reducible rfl
             rotate_left
             ·simp only [Act.put, List.setIfInBounds_toArray, List.set_cons_zero, List.set_cons_succ, i64_w, i32_w]
              rfl
             refine take_ (i := 11) (N := some 77) (v := ?_) (a' := ?_) #[true, true, true, true, true, true, true, true, true, true, true, true, true, true, true, false, false, true, true, false, true, true, true, false, false, false, false] rfl rfl (take_ofW HT_.out HW_.out (by kernel_rfl)) (fun _ _ _ h => h) (Or.inl ⟨by rfl, ?_⟩) hHeld ?_ ?_
             rotate_left
             ·rintro w' ⟨s0, s1, s2, s3, s4, s5, s6, s7, s8, s9, s10, s11, s12, s13, s14, s15, s16, s17, s18, s19, s20, s21, s22, s23, s24, s25, s26, s27, s28, s29⟩
              go_simp
              with_reducible rfl
             rotate_left
             ·simp only [Act.put, List.setIfInBounds_toArray, List.set_cons_zero, List.set_cons_succ, i64_w, i32_w]
              rfl
             refine take_ (i := 15) (N := some 81) (v := ?_) (a' := ?_) #[true, true, true, true, true, true, true, true, true, true, true, true, true, true, true, true, false, true, true, false, true, true, true, false, false, false, false] rfl rfl (take_ofW HT_.out HW_.out (by kernel_rfl)) (fun _ _ _ h => h) (Or.inl ⟨by rfl, ?_⟩) hHeld ?_ ?_
             rotate_left
             ·rintro w' ⟨s0, s1, s2, s3, s4, s5, s6, s7, s8, s9, s10, s11, s12, s13, s14, s15, s16, s17, s18, s19, s20, s21, s22, s23, s24, s25, s26, s27, s28, s29⟩
              go_simp
              with_reducible rfl
             rotate_left
             ·simp only [Act.put, List.setIfInBounds_toArray, List.set_cons_zero, List.set_cons_succ, i64_w, i32_w]
              rfl
             refine take_ (i := 19) (N := some 85) (v := ?_) (a' := ?_) #[true, true, true, true, true, true, true, true, true, true, true, true, true, true, true, true, false, true, true, true, true, true, true, false, false, false, false] rfl rfl (take_ofW HT_.out HW_.out (by kernel_rfl)) (fun _ _ _ h => h) (Or.inl ⟨by rfl, ?_⟩) hHeld ?_ ?_
             rotate_left
             ·rintro w' ⟨s0, s1, s2, s3, s4, s5, s6, s7, s8, s9, s10, s11, s12, s13, s14, s15, s16, s17, s18, s19, s20, s21, s22, s23, s24, s25, s26, s27, s28, s29⟩
              go_simp
              with_reducible rfl
             rotate_left
             ·simp only [Act.put, List.setIfInBounds_toArray, List.set_cons_zero, List.set_cons_succ, i64_w, i32_w]
              rfl
             refine take_ (i := 23) (N := some 89) (v := ?_) (a' := ?_) #[true, true, true, true, true, true, true, true, true, true, true, true, true, true, true, true, false, true, true, true, true, true, true, true, false, false, false] rfl rfl (take_ofW HT_.out HW_.out (by kernel_rfl)) (fun _ _ _ h => h) (Or.inl ⟨by rfl, ?_⟩) hHeld ?_ ?_
             rotate_left
             ·rintro w' ⟨s0, s1, s2, s3, s4, s5, s6, s7, s8, s9, s10, s11, s12, s13, s14, s15, s16, s17, s18, s19, s20, s21, s22, s23, s24, s25, s26, s27, s28, s29⟩
              go_simp
              with_reducible rfl
             rotate_left
             ·simp only [Act.put, List.setIfInBounds_toArray, List.set_cons_zero, List.set_cons_succ, i64_w, i32_w]
              rfl
             refine one_ (i := 16) (N := some 82) #[true, true, true, true, true, true, true, true, true, true, true, true, true, true, true, true, true, true, true, true, true, true, true, true, false, false, false] rfl rfl (one_of HT_.out (by kernel_rfl)) (by decide) (fun K hK => ?_)
             refine goes_ Tryd.func19 (by kernel_rfl) rfl #[.agg #[.int .i64 ((rd_T23 l0 0).f0), .int .i64 ((rd_T23 l0 0).f1), .int .i64 ((rd_T23 l0 0).f2), .string ((rd_T23 l0 0).f3), .string ((rd_T23 l0 0).f4)], .agg #[.int .i64 ((rd_T23 l0 x6_2).f0), .int .i64 ((rd_T23 l0 x6_2).f1), .int .i64 ((rd_T23 l0 x6_2).f2), .string ((rd_T23 l0 x6_2).f3), .string ((rd_T23 l0 x6_2).f4)]] (by rfl) rfl rfl (by (try simp only [List.map_toArray, List.map_cons, List.map_nil]); first | done | rfl) ?_
             with_reducible refine (ver_Compare.calls k2 ((rd_T23 l0 0).f0) ((rd_T23 l0 0).f1) ((rd_T23 l0 0).f2) ((rd_T23 l0 0).f3) ((rd_T23 l0 0).f4) ((rd_T23 l0 x6_2).f0) ((rd_T23 l0 x6_2).f1) ((rd_T23 l0 x6_2).f2) ((rd_T23 l0 x6_2).f3) ((rd_T23 l0 x6_2).f4) t399 _ A21.out).mono ?_
             rintro e w33 ⟨rfl, hb⟩
             refine ⟨_, rfl, ?_⟩
             have n0_ := Aside0.mk (blk_below (g := gb388) (o := .cells #[.int .i64 t382, .int .i64 t383, .int .i64 t384, .string t385, .string t386] 23 (0, 0)) (by (with_reducible repeat (first | apply xN_ | apply xD_ | apply xA_)); exact BK388.out) hb)
             have n1_ := Aside0.mk (blk_below (g := gb396) (o := .cells #[.int .i64 t390, .int .i64 t391, .int .i64 t392, .string t393, .string t394] 23 (0, 0)) (by (with_reducible repeat (first | apply xN_ | apply xD_ | apply xA_)); exact BK396.out) hb)
             have n2_ := Aside0.mk (below_step (by repeat (first | (with_reducible first | exact HB.out | apply yA_ | apply yN_ | apply yD_ | refine yS_ ?_ GE388.out | refine yS_ ?_ GE396.out) | exact HB.out)) hb)
             clear BK388
             clear BK396
             clear HB
             have BK388 := n0_
             have BK396 := n1_
             have HB := n2_
             clear n0_ n1_ n2_
             (try clear hb)
             (try clear hb2)
             (try clear hk)
             (try clear hi)
             refine hK.out _ _ ⟨(xC_ BK388.out 0).trans rfl, (xC_ BK388.out 1).trans rfl, (xC_ BK388.out 2).trans rfl, (xC_ BK388.out 3).trans rfl, (xC_ BK388.out 4).trans rfl, (xC_ BK396.out 0).trans rfl, (xC_ BK396.out 1).trans rfl, (xC_ BK396.out 2).trans rfl, (xC_ BK396.out 3).trans rfl, (xC_ BK396.out 4).trans rfl, ((HB.out.cell (World.block_lt_of_cell? w _ hw397_0)).trans hw397_0), ((HB.out.cell (World.block_lt_of_cell? w _ hw397_1)).trans hw397_1), ((HB.out.cell (World.block_lt_of_cell? w _ hw397_2)).trans hw397_2), ((HB.out.cell (World.block_lt_of_cell? w _ hw397_3)).trans hw397_3), ((HB.out.cell (World.block_lt_of_cell? w _ hw397_4)).trans hw397_4), ((HB.out.cell (World.block_lt_of_cell? w _ hw398_0)).trans hw398_0), ((HB.out.cell (World.block_lt_of_cell? w _ hw398_1)).trans hw398_1), ((HB.out.cell (World.block_lt_of_cell? w _ hw398_2)).trans hw398_2), ((HB.out.cell (World.block_lt_of_cell? w _ hw398_3)).trans hw398_3), ((HB.out.cell (World.block_lt_of_cell? w _ hw398_4)).trans hw398_4), ((HB.out.cell (World.block_lt_of_cell? w _ hw400_0)).trans hw400_0), ((HB.out.cell (World.block_lt_of_cell? w _ hw400_1)).trans hw400_1), ((HB.out.cell (World.block_lt_of_cell? w _ hw400_2)).trans hw400_2), ((HB.out.cell (World.block_lt_of_cell? w _ hw400_3)).trans hw400_3), ((HB.out.cell (World.block_lt_of_cell? w _ hw400_4)).trans hw400_4), ((HB.out.cell (World.block_lt_of_cell? w _ hw401_0)).trans hw401_0), ((HB.out.cell (World.block_lt_of_cell? w _ hw401_1)).trans hw401_1), ((HB.out.cell (World.block_lt_of_cell? w _ hw401_2)).trans hw401_2), ((HB.out.cell (World.block_lt_of_cell? w _ hw401_3)).trans hw401_3), ((HB.out.cell (World.block_lt_of_cell? w _ hw401_4)).trans hw401_4)⟩ (fun hHeld => ?_)
             clear hK K
             refine norm_ (a' := ?_) ?_ ?_
             rotate_left
             ·show Act.put _ (some 82) _ = _
              simp only [Act.put, List.setIfInBounds_toArray, List.set_cons_zero, List.set_cons_succ, i64_w, i32_w]
              rfl
             refine one_ (i := 24) (N := some 90) #[true, true, true, true, true, true, true, true, true, true, true, true, true, true, true, true, true, true, true, true, true, true, true, true, true, false, false] rfl rfl (one_of HT_.out (by kernel_rfl)) (by decide) (fun K hK => ?_)
             refine goes_ Tryd.func20 (by kernel_rfl) rfl #[.agg #[.int .i64 ((rd_T23 l0 0).f0), .int .i64 ((rd_T23 l0 0).f1), .int .i64 ((rd_T23 l0 0).f2), .string ((rd_T23 l0 0).f3), .string ((rd_T23 l0 0).f4)], .agg #[.int .i64 ((rd_T23 l0 x6_2).f0), .int .i64 ((rd_T23 l0 x6_2).f1), .int .i64 ((rd_T23 l0 x6_2).f2), .string ((rd_T23 l0 x6_2).f3), .string ((rd_T23 l0 x6_2).f4)]] (by rfl) rfl rfl (by (try simp only [List.map_toArray, List.map_cons, List.map_nil]); first | done | rfl) ?_
             with_reducible refine (armadaref07_Compare.calls k2 ((rd_T23 l0 0).f0) ((rd_T23 l0 0).f1) ((rd_T23 l0 0).f2) ((rd_T23 l0 0).f3) ((rd_T23 l0 0).f4) ((rd_T23 l0 x6_2).f0) ((rd_T23 l0 x6_2).f1) ((rd_T23 l0 x6_2).f2) ((rd_T23 l0 x6_2).f3) ((rd_T23 l0 x6_2).f4) t402 _ A22.out).mono ?_
             rintro e w34 ⟨rfl, hb⟩
             refine ⟨_, rfl, ?_⟩
             have n0_ := Aside0.mk (blk_below (g := gb388) (o := .cells #[.int .i64 t382, .int .i64 t383, .int .i64 t384, .string t385, .string t386] 23 (0, 0)) (by (with_reducible repeat (first | apply xN_ | apply xD_ | apply xA_)); exact BK388.out) hb)
             have n1_ := Aside0.mk (blk_below (g := gb396) (o := .cells #[.int .i64 t390, .int .i64 t391, .int .i64 t392, .string t393, .string t394] 23 (0, 0)) (by (with_reducible repeat (first | apply xN_ | apply xD_ | apply xA_)); exact BK396.out) hb)
             have n2_ := Aside0.mk (below_step (by repeat (first | (with_reducible first | exact HB.out | apply yA_ | apply yN_ | apply yD_ | refine yS_ ?_ GE388.out | refine yS_ ?_ GE396.out) | exact HB.out)) hb)
             clear BK388
             clear BK396
             clear HB
             have BK388 := n0_
             have BK396 := n1_
             have HB := n2_
             clear n0_ n1_ n2_
             (try clear hb)
             (try clear hb2)
             (try clear hk)
             (try clear hi)
             refine hK.out _ _ ⟨(xC_ BK388.out 0).trans rfl, (xC_ BK388.out 1).trans rfl, (xC_ BK388.out 2).trans rfl, (xC_ BK388.out 3).trans rfl, (xC_ BK388.out 4).trans rfl, (xC_ BK396.out 0).trans rfl, (xC_ BK396.out 1).trans rfl, (xC_ BK396.out 2).trans rfl, (xC_ BK396.out 3).trans rfl, (xC_ BK396.out 4).trans rfl, ((HB.out.cell (World.block_lt_of_cell? w _ hw397_0)).trans hw397_0), ((HB.out.cell (World.block_lt_of_cell? w _ hw397_1)).trans hw397_1), ((HB.out.cell (World.block_lt_of_cell? w _ hw397_2)).trans hw397_2), ((HB.out.cell (World.block_lt_of_cell? w _ hw397_3)).trans hw397_3), ((HB.out.cell (World.block_lt_of_cell? w _ hw397_4)).trans hw397_4), ((HB.out.cell (World.block_lt_of_cell? w _ hw398_0)).trans hw398_0), ((HB.out.cell (World.block_lt_of_cell? w _ hw398_1)).trans hw398_1), ((HB.out.cell (World.block_lt_of_cell? w _ hw398_2)).trans hw398_2), ((HB.out.cell (World.block_lt_of_cell? w _ hw398_3)).trans hw398_3), ((HB.out.cell (World.block_lt_of_cell? w _ hw398_4)).trans hw398_4), ((HB.out.cell (World.block_lt_of_cell? w _ hw400_0)).trans hw400_0), ((HB.out.cell (World.block_lt_of_cell? w _ hw400_1)).trans hw400_1), ((HB.out.cell (World.block_lt_of_cell? w _ hw400_2)).trans hw400_2), ((HB.out.cell (World.block_lt_of_cell? w _ hw400_3)).trans hw400_3), ((HB.out.cell (World.block_lt_of_cell? w _ hw400_4)).trans hw400_4), ((HB.out.cell (World.block_lt_of_cell? w _ hw401_0)).trans hw401_0), ((HB.out.cell (World.block_lt_of_cell? w _ hw401_1)).trans hw401_1), ((HB.out.cell (World.block_lt_of_cell? w _ hw401_2)).trans hw401_2), ((HB.out.cell (World.block_lt_of_cell? w _ hw401_3)).trans hw401_3), ((HB.out.cell (World.block_lt_of_cell? w _ hw401_4)).trans hw401_4)⟩ (fun hHeld => ?_)
             clear hK K
             refine norm_ (a' := ?_) ?_ ?_
             rotate_left
             ·show Act.put _ (some 90) _ = _
              simp only [Act.put, List.setIfInBounds_toArray, List.set_cons_zero, List.set_cons_succ, i64_w, i32_w]
              rfl
             refine pure_ (i := 25) (N := some 91) (v := ?_) (a' := ?_) #[true, true, true, true, true, true, true, true, true, true, true, true, true, true, true, true, true, true, true, true, true, true, true, true, true, true, false] rfl rfl (any_of HT_.out (by kernel_rfl)) (fun _ _ _ h => h) (Or.inl ⟨by rfl, ?_⟩) ?_ ?_
             rotate_left
             ·intro w'
              go_simp
              with_reducible rfl
             rotate_left
             ·simp only [Act.put, List.setIfInBounds_toArray, List.set_cons_zero, List.set_cons_succ, i64_w, i32_w]
              rfl
             refine pure_ (i := 26) (N := some 92) (v := ?_) (a' := ?_) #[true, true, true, true, true, true, true, true, true, true, true, true, true, true, true, true, true, true, true, true, true, true, true, true, true, true, true] rfl rfl (any_of HT_.out (by kernel_rfl)) (fun _ _ _ h => h) (Or.inl ⟨by rfl, ?_⟩) ?_ ?_
             rotate_left
             ·intro w'
              go_simp
              with_reducible rfl
             rotate_left
             ·simp only [Act.put, List.setIfInBounds_toArray, List.set_cons_zero, List.set_cons_succ, i64_w, i32_w]
              rfl
             refine done_ (done_of HT_.out (by kernel_rfl)) ?_
             try go_wp2
             go_roundg k2
             case measure => have := HK1.out; have := HK2.out; omega
             case rel => exact ⟨(wrap64 (x6_2 + 1)), (by first | rfl | (simp; done) | (simp [*]; done)), H', ⟨by have := HK1.out; have := HK2.out; omega⟩, ⟨by repeat (first | (with_reducible first | exact HB.out | apply yA_ | apply yN_ | apply yD_ | refine yS_ ?_ GE388.out | refine yS_ ?_ GE396.out) | exact HB.out)⟩⟩
            ·rw [if_neg c23] at H
             have c23b0 : (t399 == t402) = false := beq_eq_false_iff_ne.mpr c23
             have c23b1 : (t399 != t402) = true := bne_iff_ne.mpr c23
             exact absurd H (by simp)
           ·rw [if_neg c20] at H
            exact absurd H (by simp)
          ·rw [if_neg c19] at H
           have c19b0 : (t387 == t395) = false := beq_eq_false_iff_ne.mpr c19
           have c19b1 : (t387 != t395) = true := bne_iff_ne.mpr c19
           exact absurd H (by simp)
        ·rw [if_neg c15] at H
         exact absurd H (by simp)
       ·rw [if_neg c14] at H
        have c14b0 : decide (x6_2 < (l0.length : Int)) = false := decide_eq_false c14
        clear c14
        replace H := Option.bind_eq_some_iff.mp H
        obtain ⟨⟨t366, t367, t368, t369, t370, t371⟩, A350, H⟩ := H
        replace H : ((armadaref07_Max.f k2 l0).bind fun bt373 => (if (t366 == bt373.1 && (t367 == bt373.2.1 && (t368 == bt373.2.2.1 && (t369.toList == bt373.2.2.2.1.toList && (t370.toList == bt373.2.2.2.2.1.toList))))) = true then (if (t371 == bt373.2.2.2.2.2) = true then ((armadalaw07_live.f k2).bind fun t380 => (some t380)) else (some false)) else (some false))) = some true := H
        have A35 := Aside0.mk A350
        clear A350
        replace H := Option.bind_eq_some_iff.mp H
        obtain ⟨⟨t373, t374, t375, t376, t377, t378⟩, A360, H⟩ := H
        replace H : (if (t366 == t373 && (t367 == t374 && (t368 == t375 && (t369.toList == t376.toList && (t370.toList == t377.toList))))) = true then (if (t371 == t378) = true then ((armadalaw07_live.f k2).bind fun t380 => (some t380)) else (some false)) else (some false)) = some true := H
        have A36 := Aside0.mk A360
        clear A360
        by_cases c37 : (t366 == t373 && (t367 == t374 && (t368 == t375 && (t369.toList == t376.toList && (t370.toList == t377.toList))))) = true
        ·rw [if_pos c37] at H
         have c37b0 : (t366 == t373 && (t367 == t374 && (t368 == t375 && (t369.toList == t376.toList && (t370.toList == t377.toList))))) = true := c37
         (try (have c37b1 : decide (t366 = t373 && (t367 == t374 && (t368 == t375 && (t369.toList == t376.toList && (t370.toList == t377.toList))))) = true := by simpa using c37))
         (try (have c37b2 : (t366 == t373 && (t367 == t374 && (t368 == t375 && (t369.toList == t376.toList && (t370.toList == t377.toList))))) = true := by simpa using c37))
         clear c37
         by_cases c38 : (t371 == t378) = true
         ·rw [if_pos c38] at H
          have c38b0 : (t371 == t378) = true := c38
          (try (have c38b1 : decide (t371 = t378) = true := by simpa using c38))
          (try (have c38b2 : (t371 == t378) = true := by simpa using c38))
          clear c38
          replace H := Option.bind_eq_some_iff.mp H
          obtain ⟨t380, A390, H⟩ := H
          replace H : (some t380) = some true := H
          have A39 := Aside0.mk A390
          clear A390
          obtain rfl := Option.some.inj H
          go_wp2_with (first | ((with_reducible refine gate_callee (f := 21) rfl ?_); refine goesL_ (some 95) rfl rfl Tryd.func21 (by kernel_rfl) rfl #[.slice A0 l0.length c0] rfl (by (try simp only [List.map_toArray, List.map_cons, List.map_nil]); first | done | rfl) ?_; (with_reducible refine (ver_Max.calls k2 _ _ l0 t366 t367 t368 t369 t370 t371 _ ?side1 ?side2 A35.out).mono ?_); (case side1 => repeat (first | exact (Kd.C_below HR0.out HB.out) | (with_reducible refine Kd.C_alloc ?_ _) | (with_reducible refine Kd.C_drewN ?_ _) | (with_reducible refine Kd.C_drew ?_))); (case side2 => exact HC0.out); rintro e w40 ⟨rfl, hb⟩; refine ⟨_, rfl, ?_⟩; have n0_ := Aside0.mk (below_step (by repeat (first | (with_reducible first | exact HB.out | apply yA_ | apply yN_ | apply yD_) | exact HB.out)) hb); clear HB; have HB := n0_; clear n0_; (try clear hb); (try clear hb2); (try clear hk); (try clear hi)) | ((with_reducible refine gate_dst (N := 11) rfl ?_); (try (refine gate_guard (by rfl) ?_; dsimp only)); refine box_event ?hg (N := 11) ?hd (cs := #[.int .i64 0, .int .i64 0, .int .i64 0, .string (⟨#[]⟩ : ByteArray), .string (⟨#[]⟩ : ByteArray)]) (t := 23) ?hr ?_; (case hd => rfl); (case hg => rfl); (case hr => first | (go_simp; done) | (go_simp; rfl)); intro gb372 hg w41 hbox hb; have n0_ := Aside0.mk (below_step (by repeat (first | (with_reducible first | exact HB.out | apply yA_ | apply yN_ | apply yD_) | exact HB.out)) hb); have n1_ := Aside0.mk (hbox); have n2_ := Aside0.mk ((by rw [hg]; exact (below_size (by repeat (first | (with_reducible first | exact HB.out | apply yA_ | apply yN_ | apply yD_) | exact HB.out))) : w.heap.size ≤ gb372)); have n3_ := Aside0.mk ((by rw [hg]; exact (below_size (by repeat (first | (with_reducible first | exact HB.out | apply yA_ | apply yN_ | apply yD_) | exact HB.out))) : w.heap.size ≤ gb372)); clear HB; have HB := n0_; have BK372 := n1_; have GW372 := n2_; have GE372 := n3_; clear n0_ n1_ n2_ n3_; clear hb hbox hg; have hcz42_0 : w41.cell? ⟨gb372, 0, none⟩ = some (.int .i64 0) := (xC_ BK372.out 0).trans rfl; have hcz42_1 : w41.cell? ⟨gb372, 1, none⟩ = some (.int .i64 0) := (xC_ BK372.out 1).trans rfl; have hcz42_2 : w41.cell? ⟨gb372, 2, none⟩ = some (.int .i64 0) := (xC_ BK372.out 2).trans rfl; have hcz42_3 : w41.cell? ⟨gb372, 3, none⟩ = some (.string (⟨#[]⟩ : ByteArray)) := (xC_ BK372.out 3).trans rfl; have hcz42_4 : w41.cell? ⟨gb372, 4, none⟩ = some (.string (⟨#[]⟩ : ByteArray)) := (xC_ BK372.out 4).trans rfl; have hfz42_0 := xF_ BK372.out 0; have hfz42_1 := xF_ BK372.out 1; have hfz42_2 := xF_ BK372.out 2; have hfz42_3 := xF_ BK372.out 3; have hfz42_4 := xF_ BK372.out 4) | ((with_reducible refine gate_callee (f := 22) rfl ?_); refine goesL_ (some 100) rfl rfl Tryd.func22 (by kernel_rfl) rfl #[.slice A0 l0.length c0] rfl (by (try simp only [List.map_toArray, List.map_cons, List.map_nil]); first | done | rfl) ?_; (with_reducible refine (armadaref07_Max.calls k2 _ _ l0 t373 t374 t375 t376 t377 t378 _ ?side1 ?side2 A36.out).mono ?_); (case side1 => exact Kd.C_below HR0.out (by repeat (first | (with_reducible first | exact HB.out | apply yA_ | apply yN_ | apply yD_ | refine yS_ ?_ GE372.out) | exact HB.out))); (case side2 => exact HC0.out); rintro e w43 ⟨rfl, hb⟩; refine ⟨_, rfl, ?_⟩; have n0_ := Aside0.mk (blk_below (g := gb372) (o := .cells #[.int .i64 t366, .int .i64 t367, .int .i64 t368, .string t369, .string t370] 23 (0, 0)) (by (with_reducible repeat (first | apply xN_ | apply xD_ | apply xA_)); refine blk_put (cs := #[.int .i64 t366, .int .i64 t367, .int .i64 t368, .string t369, .string (⟨#[]⟩ : ByteArray)]) ?_ 4 _ rfl; refine blk_put (cs := #[.int .i64 t366, .int .i64 t367, .int .i64 t368, .string (⟨#[]⟩ : ByteArray), .string (⟨#[]⟩ : ByteArray)]) ?_ 3 _ rfl; refine blk_put (cs := #[.int .i64 t366, .int .i64 t367, .int .i64 0, .string (⟨#[]⟩ : ByteArray), .string (⟨#[]⟩ : ByteArray)]) ?_ 2 _ rfl; refine blk_put (cs := #[.int .i64 t366, .int .i64 0, .int .i64 0, .string (⟨#[]⟩ : ByteArray), .string (⟨#[]⟩ : ByteArray)]) ?_ 1 _ rfl; refine blk_put (cs := #[.int .i64 0, .int .i64 0, .int .i64 0, .string (⟨#[]⟩ : ByteArray), .string (⟨#[]⟩ : ByteArray)]) ?_ 0 _ rfl; (with_reducible repeat (first | apply xN_ | apply xD_ | apply xA_)); exact BK372.out) hb); have n1_ := Aside0.mk (below_step (by repeat (first | (with_reducible first | exact HB.out | apply yA_ | apply yN_ | apply yD_ | refine yS_ ?_ GE372.out) | exact HB.out)) hb); clear BK372; clear HB; have BK372 := n0_; have HB := n1_; clear n0_ n1_; (try clear hb); (try clear hb2); (try clear hk); (try clear hi)) | ((with_reducible refine gate_dst (N := 13) rfl ?_); (try (refine gate_guard (by rfl) ?_; dsimp only)); refine box_event ?hg (N := 13) ?hd (cs := #[.int .i64 0, .int .i64 0, .int .i64 0, .string (⟨#[]⟩ : ByteArray), .string (⟨#[]⟩ : ByteArray)]) (t := 23) ?hr ?_; (case hd => rfl); (case hg => rfl); (case hr => first | (go_simp; done) | (go_simp; rfl)); intro gb379 hg w44 hbox hb; have n0_ := Aside0.mk (blk_below (g := gb372) (o := .cells #[.int .i64 t366, .int .i64 t367, .int .i64 t368, .string t369, .string t370] 23 (0, 0)) (by (with_reducible repeat (first | apply xN_ | apply xD_ | apply xA_)); exact BK372.out) hb); have n1_ := Aside0.mk (below_step (by repeat (first | (with_reducible first | exact HB.out | apply yA_ | apply yN_ | apply yD_ | refine yS_ ?_ GE372.out) | exact HB.out)) hb); have n2_ := Aside0.mk (hbox); have n3_ := Aside0.mk ((by rw [hg]; exact (below_size (by repeat (first | (with_reducible first | exact HB.out | apply yA_ | apply yN_ | apply yD_ | refine yS_ ?_ GE372.out) | exact HB.out))) : w.heap.size ≤ gb379)); have n4_ := Aside0.mk ((by rw [hg]; exact (below_size (by repeat (first | (with_reducible first | exact HB.out | apply yA_ | apply yN_ | apply yD_ | refine yS_ ?_ GE372.out) | exact HB.out))) : w.heap.size ≤ gb379)); have n5_ := Aside0.mk ((by rw [hg]; exact Nat.ne_of_lt (blk_lt (g := gb372) (o := .cells #[.int .i64 t366, .int .i64 t367, .int .i64 t368, .string t369, .string t370] 23 (0, 0)) (by (with_reducible repeat (first | apply xN_ | apply xD_ | apply xA_)); exact BK372.out)) : gb372 ≠ gb379)); have n6_ := Aside0.mk ((by rw [hg]; exact Nat.ne_of_gt (blk_lt (g := gb372) (o := .cells #[.int .i64 t366, .int .i64 t367, .int .i64 t368, .string t369, .string t370] 23 (0, 0)) (by (with_reducible repeat (first | apply xN_ | apply xD_ | apply xA_)); exact BK372.out)) : gb379 ≠ gb372)); clear BK372; clear HB; have BK372 := n0_; have HB := n1_; have BK379 := n2_; have GW379 := n3_; have GE379 := n4_; have NB372_379 := n5_; have NB379_372 := n6_; clear n0_ n1_ n2_ n3_ n4_ n5_ n6_; clear hb hbox hg; have hnb45 := NB379_372.out; have hnc45 := NB372_379.out; have hcz46_0 : w44.cell? ⟨gb379, 0, none⟩ = some (.int .i64 0) := (xC_ BK379.out 0).trans rfl; have hcz46_1 : w44.cell? ⟨gb379, 1, none⟩ = some (.int .i64 0) := (xC_ BK379.out 1).trans rfl; have hcz46_2 : w44.cell? ⟨gb379, 2, none⟩ = some (.int .i64 0) := (xC_ BK379.out 2).trans rfl; have hcz46_3 : w44.cell? ⟨gb379, 3, none⟩ = some (.string (⟨#[]⟩ : ByteArray)) := (xC_ BK379.out 3).trans rfl; have hcz46_4 : w44.cell? ⟨gb379, 4, none⟩ = some (.string (⟨#[]⟩ : ByteArray)) := (xC_ BK379.out 4).trans rfl; have hfz46_0 := xF_ BK379.out 0; have hfz46_1 := xF_ BK379.out 1; have hfz46_2 := xF_ BK379.out 2; have hfz46_3 := xF_ BK379.out 3; have hfz46_4 := xF_ BK379.out 4; have hcz47_0 : w44.cell? ⟨gb372, 0, none⟩ = some (.int .i64 t366) := (xC_ BK372.out 0).trans rfl; have hcz47_1 : w44.cell? ⟨gb372, 1, none⟩ = some (.int .i64 t367) := (xC_ BK372.out 1).trans rfl; have hcz47_2 : w44.cell? ⟨gb372, 2, none⟩ = some (.int .i64 t368) := (xC_ BK372.out 2).trans rfl; have hcz47_3 : w44.cell? ⟨gb372, 3, none⟩ = some (.string t369) := (xC_ BK372.out 3).trans rfl; have hcz47_4 : w44.cell? ⟨gb372, 4, none⟩ = some (.string t370) := (xC_ BK372.out 4).trans rfl; have hfz47_0 := xF_ BK372.out 0; have hfz47_1 := xF_ BK372.out 1; have hfz47_2 := xF_ BK372.out 2; have hfz47_3 := xF_ BK372.out 3; have hfz47_4 := xF_ BK372.out 4) | (go_at_call 10; (with_reducible refine (armadalaw07_live.calls k2  true _ A39.out (LW0 := LW.out.below (by repeat (first | (with_reducible first | exact HB.out | apply yA_ | apply yN_ | apply yD_ | refine yS_ ?_ GE372.out | refine yS_ ?_ GE379.out) | exact HB.out)))).mono ?_); rintro e w48 ⟨rfl, hb⟩; have n0_ := Aside0.mk (blk_below (g := gb372) (o := .cells #[.int .i64 t366, .int .i64 t367, .int .i64 t368, .string t369, .string t370] 23 (0, 0)) (by (with_reducible repeat (first | apply xN_ | apply xD_ | apply xA_)); refine xR_ ?_ NB372_379.out _; refine xR_ ?_ NB372_379.out _; refine xR_ ?_ NB372_379.out _; refine xR_ ?_ NB372_379.out _; refine xR_ ?_ NB372_379.out _; (with_reducible repeat (first | apply xN_ | apply xD_ | apply xA_)); exact BK372.out) hb); have n1_ := Aside0.mk (blk_below (g := gb379) (o := .cells #[.int .i64 t373, .int .i64 t374, .int .i64 t375, .string t376, .string t377] 23 (0, 0)) (by (with_reducible repeat (first | apply xN_ | apply xD_ | apply xA_)); refine blk_put (cs := #[.int .i64 t373, .int .i64 t374, .int .i64 t375, .string t376, .string (⟨#[]⟩ : ByteArray)]) ?_ 4 _ rfl; refine blk_put (cs := #[.int .i64 t373, .int .i64 t374, .int .i64 t375, .string (⟨#[]⟩ : ByteArray), .string (⟨#[]⟩ : ByteArray)]) ?_ 3 _ rfl; refine blk_put (cs := #[.int .i64 t373, .int .i64 t374, .int .i64 0, .string (⟨#[]⟩ : ByteArray), .string (⟨#[]⟩ : ByteArray)]) ?_ 2 _ rfl; refine blk_put (cs := #[.int .i64 t373, .int .i64 0, .int .i64 0, .string (⟨#[]⟩ : ByteArray), .string (⟨#[]⟩ : ByteArray)]) ?_ 1 _ rfl; refine blk_put (cs := #[.int .i64 0, .int .i64 0, .int .i64 0, .string (⟨#[]⟩ : ByteArray), .string (⟨#[]⟩ : ByteArray)]) ?_ 0 _ rfl; (with_reducible repeat (first | apply xN_ | apply xD_ | apply xA_)); exact BK379.out) hb); have n2_ := Aside0.mk (below_step (by repeat (first | (with_reducible first | exact HB.out | apply yA_ | apply yN_ | apply yD_ | refine yS_ ?_ GE372.out | refine yS_ ?_ GE379.out) | exact HB.out)) hb); clear BK372; clear BK379; clear HB; have BK372 := n0_; have BK379 := n1_; have HB := n2_; clear n0_ n1_ n2_; (try clear hb); (try clear hb2); (try clear hk); (try clear hi)))
          go_ret
          exact ⟨by first | rfl | (simp [errW_none, errW_some] <;> rfl) | (simp [*, errW_none, errW_some] <;> rfl), by repeat (first | (with_reducible first | exact HB.out | apply yA_ | apply yN_ | apply yD_ | refine yS_ ?_ GE372.out | refine yS_ ?_ GE379.out) | exact HB.out)⟩
         ·rw [if_neg c38] at H
          have c38b0 : (t371 == t378) = false := by simpa using c38
          (try (have c38b1 : decide (t371 = t378) = false := by simpa using c38))
          (try (have c38b2 : (t371 == t378) = false := by simpa using c38))
          (try (have c38b3 : ¬ (t371 = t378) := by simpa using c38))
          clear c38
          exact absurd H (by simp)
        ·rw [if_neg c37] at H
         have c37b0 : (t366 == t373 && (t367 == t374 && (t368 == t375 && (t369.toList == t376.toList && (t370.toList == t377.toList))))) = false := by simpa using c37
         (try (have c37b1 : decide (t366 = t373 && (t367 == t374 && (t368 == t375 && (t369.toList == t376.toList && (t370.toList == t377.toList))))) = false := by simpa using c37))
         (try (have c37b2 : (t366 == t373 && (t367 == t374 && (t368 == t375 && (t369.toList == t376.toList && (t370.toList == t377.toList))))) = false := by simpa using c37))
         (try (have c37b3 : ¬ (t366 = t373 && (t367 == t374 && (t368 == t375 && (t369.toList == t376.toList && (t370.toList == t377.toList))))) := by simpa using c37))
         clear c37
         exact absurd H (by simp)
end
end Go.Proofs.YthoiepkejhhcoaaDoor.P
