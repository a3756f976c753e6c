/- Printed functions, merged. -/
import Derived.Test.YthoiepkejhhcoaaDoorZVMM0
import Derived.Test.YthoiepkejhhcoaaDoorZVMVLaid
import Derived.Test.YthoiepkejhhcoaaDoorZVMM3
import Derived.Test.YthoiepkejhhcoaaDoorZVMM4
import Derived.Test.YthoiepkejhhcoaaDoorZVMVCheck
namespace Go.Proofs.YthoiepkejhhcoaaDoor.P
open Go.RowKit Go.Proofs.YthoiepkejhhcoaaDoorW.PrintWords Go.Proofs.YthoiepkejhhcoaaDoorW.PrintLast Go.Proofs.YthoiepkejhhcoaaDoorW.PrintMore
attribute [local go_sem] max2_int min2_int max_two min_two max_three min_three max_four min_four   -- for this text's walks alone
set_option linter.unusedVariables false
set_option linter.unusedSimpArgs false
section
attribute [local go_sem high] eqA23
mutual
def armadalaw07_VerMax.l0 : Nat → List (S23) → Int → Int → Option (Bool)
  | 0, _, _, _ => none
  | k + 1, x0, x1, x5 => if x5 < (x0.length : Int) then (if 0 ≤ x5 then (if (((rd_T23 x0 x5).f3).size : Int) > 200 then ((armadalaw07_live.f k).bind fun t497 => (some t497)) else (if (((rd_T23 x0 x5).f4).size : Int) > 200 then ((armadalaw07_live.f k).bind fun t499 => (some t499)) else (armadalaw07_VerMax.l0 k x0 x1 (wrap64 (x5 + 1))))) else (none)) else ((ver_Max.f k x0).bind fun bt500 => (armadalaw07_VerMax.l1 k x0 x1 bt500.2.2.2.2.2 false 0 bt500.1 bt500.2.1 bt500.2.2.1 bt500.2.2.2.1 bt500.2.2.2.2.1))
def armadalaw07_VerMax.l1 : Nat → List (S23) → Int → Bool → Bool → Int → Int → Int → Int → ByteArray → ByteArray → Option (Bool)
  | 0, _, _, _, _, _, _, _, _, _, _ => none
  | k + 1, x0, x1, x7, x8, x9, x507000, x507001, x507002, x507003, x507004 => if x9 < (x0.length : Int) then (if 0 ≤ x9 then ((ver_Check.f ((rd_T23 x0 x9).f0) ((rd_T23 x0 x9).f1) ((rd_T23 x0 x9).f2) ((rd_T23 x0 x9).f3) ((rd_T23 x0 x9).f4)).bind fun t508 => (if t508 = true then (if x7 = true then ((ver_Compare.f k ((rd_T23 x0 x9).f0) ((rd_T23 x0 x9).f1) ((rd_T23 x0 x9).f2) ((rd_T23 x0 x9).f3) ((rd_T23 x0 x9).f4) x507000 x507001 x507002 x507003 x507004).bind fun t510 => (if t510 > 0 then (some false) else (if x8 = true then (armadalaw07_VerMax.l1 k x0 x1 x7 true (wrap64 (x9 + 1)) x507000 x507001 x507002 x507003 x507004) else (armadalaw07_VerMax.l1 k x0 x1 x7 (((rd_T23 x0 x9).f0) == x507000 && (((rd_T23 x0 x9).f1) == x507001 && (((rd_T23 x0 x9).f2) == x507002 && ((((rd_T23 x0 x9).f3).toList) == x507003.toList && ((((rd_T23 x0 x9).f4).toList) == x507004.toList))))) (wrap64 (x9 + 1)) x507000 x507001 x507002 x507003 x507004)))) else (some false)) else (armadalaw07_VerMax.l1 k x0 x1 x7 x8 (wrap64 (x9 + 1)) x507000 x507001 x507002 x507003 x507004))) else (none)) else (if (x7 != x8) = true then (armadalaw07_VerMax.j2 k x0 x1 x7 x8 true x507000 x507001 x507002 x507003 x507004) else (if x1 < 0 then (armadalaw07_VerMax.j2 k x0 x1 x7 x8 true x507000 x507001 x507002 x507003 x507004) else (armadalaw07_VerMax.j2 k x0 x1 x7 x8 (decide (x1 > (x0.length : Int))) x507000 x507001 x507002 x507003 x507004)))
def armadalaw07_VerMax.j2 : Nat → List (S23) → Int → Bool → Bool → Bool → Int → Int → Int → ByteArray → ByteArray → Option (Bool)
  | 0, _, _, _, _, _, _, _, _, _, _ => none
  | k + 1, x0, x1, x7, x8, x88, x507000, x507001, x507002, x507003, x507004 => if x88 = true then (if (x7 == x8) = true then ((armadalaw07_live.f k).bind fun t512 => (some t512)) else (some false)) else ((some (([] : List (S23)) : List (S23))).bind fun y513 => (if 0 ≤ x1 then (if x1 ≤ (x0.length : Int) then ((some (x0.drop (x1 : Int).toNat : List (S23))).bind fun y516 => (if y513.length + y516.length < 2513169434916 then ((some (y513 ++ y516 : List (S23))).bind fun y520 => ((some (x0.take (x1 : Int).toNat : List (S23))).bind fun y523 => (if y520.length + y523.length < 2513169434916 then ((ver_Max.f k (y520 ++ y523)).bind fun bt530 => (if (bt530.2.2.2.2.2 == x7) = true then ((ver_Compare.f k bt530.1 bt530.2.1 bt530.2.2.1 bt530.2.2.2.1 bt530.2.2.2.2.1 x507000 x507001 x507002 x507003 x507004).bind fun t537 => (if t537 = 0 then ((armadalaw07_live.f k).bind fun t538 => (some t538)) else (some false))) else (some false))) else (none)))) else (none))) else (none)) else (none)))
end
def armadalaw07_VerMax.f (k : Nat) (l0 : List (S23)) (a1 : Int) : Option (Bool) := if (l0.length : Int) > 60 then ((armadalaw07_live.f k).bind fun t495 => (some t495)) else (armadalaw07_VerMax.l0 k l0 a1 0)
theorem armadalaw07_VerMax.mono_l : ∀ k, (∀ y0 y1 y2, LeO (armadalaw07_VerMax.l0 k y0 y1 y2) (armadalaw07_VerMax.l0 (k + 1) y0 y1 y2)) ∧ (∀ y0 y1 y2 y3 y4 y5 y6 y7 y8 y9, LeO (armadalaw07_VerMax.l1 k y0 y1 y2 y3 y4 y5 y6 y7 y8 y9) (armadalaw07_VerMax.l1 (k + 1) y0 y1 y2 y3 y4 y5 y6 y7 y8 y9)) ∧ (∀ y0 y1 y2 y3 y4 y5 y6 y7 y8 y9, LeO (armadalaw07_VerMax.j2 k y0 y1 y2 y3 y4 y5 y6 y7 y8 y9) (armadalaw07_VerMax.j2 (k + 1) y0 y1 y2 y3 y4 y5 y6 y7 y8 y9))
  | 0 => ⟨fun _ _ _ r h => by simp [armadalaw07_VerMax.l0] at h, fun _ _ _ _ _ _ _ _ _ _ r h => by simp [armadalaw07_VerMax.l1] at h, fun _ _ _ _ _ _ _ _ _ _ r h => by simp [armadalaw07_VerMax.j2] at h⟩
  | k + 1 => by
    obtain ⟨ih0, ih1, ih2⟩ := armadalaw07_VerMax.mono_l k
    refine ⟨?_, ?_, ?_⟩
    · intro y0 y1 y2
      unfold armadalaw07_VerMax.l0
      repeat' first
      | (with_reducible exact ih0 _ _ _)
      | (with_reducible exact ih1 _ _ _ _ _ _ _ _ _ _)
      | (with_reducible exact ih2 _ _ _ _ _ _ _ _ _ _)
      | (with_reducible exact armadalaw07_live.mono _)
      | (with_reducible exact ver_Compare.mono _ _ _ _ _ _ _ _ _ _ _)
      | (with_reducible exact ver_Max.mono _ _)
      | (with_reducible exact LeO.refl _)
      | (with_reducible exact LeO.none _)
      | (with_reducible refine LeO.ite ?_ ?_)
      | (with_reducible refine LeO.bind ?_ (fun _ => ?_))
      | exact ih0 _ _ _
      | exact ih1 _ _ _ _ _ _ _ _ _ _
      | exact ih2 _ _ _ _ _ _ _ _ _ _
      | exact armadalaw07_live.mono _
      | exact ver_Compare.mono _ _ _ _ _ _ _ _ _ _ _
      | exact ver_Max.mono _ _
      | exact LeO.none _
      | refine LeO.ite ?_ ?_
      | refine LeO.bind ?_ (fun _ => ?_)
    · intro y0 y1 y2 y3 y4 y5 y6 y7 y8 y9
      unfold armadalaw07_VerMax.l1
      repeat' first
      | (with_reducible exact ih0 _ _ _)
      | (with_reducible exact ih1 _ _ _ _ _ _ _ _ _ _)
      | (with_reducible exact ih2 _ _ _ _ _ _ _ _ _ _)
      | (with_reducible exact armadalaw07_live.mono _)
      | (with_reducible exact ver_Compare.mono _ _ _ _ _ _ _ _ _ _ _)
      | (with_reducible exact ver_Max.mono _ _)
      | (with_reducible exact LeO.refl _)
      | (with_reducible exact LeO.none _)
      | (with_reducible refine LeO.ite ?_ ?_)
      | (with_reducible refine LeO.bind ?_ (fun _ => ?_))
      | exact ih0 _ _ _
      | exact ih1 _ _ _ _ _ _ _ _ _ _
      | exact ih2 _ _ _ _ _ _ _ _ _ _
      | exact armadalaw07_live.mono _
      | exact ver_Compare.mono _ _ _ _ _ _ _ _ _ _ _
      | exact ver_Max.mono _ _
      | exact LeO.none _
      | refine LeO.ite ?_ ?_
      | refine LeO.bind ?_ (fun _ => ?_)
    · intro y0 y1 y2 y3 y4 y5 y6 y7 y8 y9
      unfold armadalaw07_VerMax.j2
      repeat' first
      | (with_reducible exact ih0 _ _ _)
      | (with_reducible exact ih1 _ _ _ _ _ _ _ _ _ _)
      | (with_reducible exact ih2 _ _ _ _ _ _ _ _ _ _)
      | (with_reducible exact armadalaw07_live.mono _)
      | (with_reducible exact ver_Compare.mono _ _ _ _ _ _ _ _ _ _ _)
      | (with_reducible exact ver_Max.mono _ _)
      | (with_reducible exact LeO.refl _)
      | (with_reducible exact LeO.none _)
      | (with_reducible refine LeO.ite ?_ ?_)
      | (with_reducible refine LeO.bind ?_ (fun _ => ?_))
      | exact ih0 _ _ _
      | exact ih1 _ _ _ _ _ _ _ _ _ _
      | exact ih2 _ _ _ _ _ _ _ _ _ _
      | exact armadalaw07_live.mono _
      | exact ver_Compare.mono _ _ _ _ _ _ _ _ _ _ _
      | exact ver_Max.mono _ _
      | exact LeO.none _
      | refine LeO.ite ?_ ?_
      | refine LeO.bind ?_ (fun _ => ?_)
theorem armadalaw07_VerMax.mono : ∀ a0 a1 k, LeO (armadalaw07_VerMax.f k a0 a1) (armadalaw07_VerMax.f (k + 1) a0 a1) := by
  intro a0 a1 k
  obtain ⟨ih0, ih1, ih2⟩ := armadalaw07_VerMax.mono_l k
  unfold armadalaw07_VerMax.f
  repeat' first
      | (with_reducible exact ih0 _ _ _)
      | (with_reducible exact ih1 _ _ _ _ _ _ _ _ _ _)
      | (with_reducible exact ih2 _ _ _ _ _ _ _ _ _ _)
      | (with_reducible exact armadalaw07_live.mono _)
      | (with_reducible exact ver_Compare.mono _ _ _ _ _ _ _ _ _ _ _)
      | (with_reducible exact ver_Max.mono _ _)
      | (with_reducible exact LeO.refl _)
      | (with_reducible exact LeO.none _)
      | (with_reducible refine LeO.ite ?_ ?_)
      | (with_reducible refine LeO.bind ?_ (fun _ => ?_))
      | exact ih0 _ _ _
      | exact ih1 _ _ _ _ _ _ _ _ _ _
      | exact ih2 _ _ _ _ _ _ _ _ _ _
      | exact armadalaw07_live.mono _
      | exact ver_Compare.mono _ _ _ _ _ _ _ _ _ _ _
      | exact ver_Max.mono _ _
      | exact LeO.none _
      | refine LeO.ite ?_ ?_
      | refine LeO.bind ?_ (fun _ => ?_)
def armadalaw07_VerMax.T14 : Bool × List (List Nat × List Nat) := (true, [([], []), ([0], [0]), ([1], [1]), ([2], [2]), ([2], [2]), ([3, 4, 2], [2, 3, 4]), ([5, 2], [2, 5]), ([2], [2]), ([6, 7, 2, 2], [2, 6, 7]), ([8, 2], [2, 8]), ([2, 9], [2, 9])])
def armadalaw07_VerMax.B14 : List Nat := [0, 1, 3, 7, 7, 31, 63, 7, 255, 511, 1023]
theorem armadalaw07_VerMax.tab14 : rtab .any (opsOf Tryd.f8 14) = armadalaw07_VerMax.T14 := by kernel_rfl
theorem armadalaw07_VerMax.bits14 : waitsOk armadalaw07_VerMax.T14.2 armadalaw07_VerMax.B14 = true := by kernel_rfl
def armadalaw07_VerMax.T16 : Bool × List (List Nat × List Nat) := (true, [([], []), ([0], [0]), ([1], [1]), ([1], [1]), ([2, 3, 1], [1, 2, 3]), ([4, 1], [1, 4]), ([1], [1]), ([5, 6, 1], [1, 5, 6]), ([1, 7], [1, 7]), ([8, 1, 0, 1, 2, 3, 4, 5, 6, 7, 8], [0, 8])])
def armadalaw07_VerMax.B16 : List Nat := [0, 1, 3, 3, 15, 31, 3, 127, 255, 511]
theorem armadalaw07_VerMax.tab16 : rtab .any (opsOf Tryd.f8 16) = armadalaw07_VerMax.T16 := by kernel_rfl
theorem armadalaw07_VerMax.bits16 : waitsOk armadalaw07_VerMax.T16.2 armadalaw07_VerMax.B16 = true := by kernel_rfl
set_option maxHeartbeats 8000000 in
set_option maxRecDepth 100000 in
theorem armadalaw07_VerMax.calls (k : Nat) (A0 : Option Addr) (c0 : Nat) (l0 : List (S23)) (a1 : Int) (r : Bool) (w : World) (hr0 : Kd.C k23 w A0 l0.length l0) (hc0 : l0.length ≤ c0) (h : armadalaw07_VerMax.f k l0 a1 = some r) (hT_ : r = true := by rfl) (LW0 : LaidW w) :
    Calls Tryd.prog 8 #[.slice A0 l0.length c0, .int .i64 a1] w fun e w' => e = .returned (.bool r) ∧ Below w.heap.size w w' := by
  subst hT_
  have LW := Aside0.mk LW0
  clear LW0
  have hu23 := Tryd.underlying23
  have HR0 := Aside0.mk hr0
  have HC0 := Aside0.mk hc0
  clear hr0 hc0
  have HB := Aside0.mk (Below.refl w.heap.size w)
  have H : (if (l0.length : Int) > 60 then ((armadalaw07_live.f k).bind fun t495 => (some t495)) else (armadalaw07_VerMax.l0 k l0 a1 0)) = some true := h
  clear h
  by_cases c3 : (l0.length : Int) > 60
  · rw [if_pos c3] at H
    have c3b0 : decide (60 < (l0.length : Int)) = true := decide_eq_true c3
    have c3b1 : decide (60 < l0.length) = true := decide_eq_true (by omega)
    clear c3
    replace H := Option.bind_eq_some_iff.mp H
    obtain ⟨t495, A40, H⟩ := H
    replace H : (some t495) = some true := H
    have A4 := Aside0.mk A40
    clear A40
    obtain rfl := Option.some.inj H
    go_enter Tryd.func8, Tryd.ntmps8
    go_wp2_with (first | ((with_reducible refine gate_callee (f := 10) rfl ?_); refine goesL_ (some 16) rfl rfl Tryd.func10 (by kernel_rfl) rfl #[] rfl (by (try simp only [List.map_toArray, List.map_cons, List.map_nil]); first | done | rfl | (simp only [List.length_drop, List.length_take]; rfl)) ?_; (with_reducible refine (armadalaw07_live.calls k  true _ A4.out (LW0 := LW.out.below (by repeat (first | (with_reducible first | exact HB.out | apply below_alloc | apply pw_below_drewN | apply below_drew1) | exact HB.out)))).mono ?_); rintro e w5 ⟨rfl, hb⟩; refine ⟨_, rfl, ?_⟩; have n0_ := Aside0.mk (below_step (by repeat (first | (with_reducible first | exact HB.out | apply below_alloc | apply pw_below_drewN | apply below_drew1) | exact HB.out)) hb); clear HB; have HB := n0_; clear n0_; (try clear hb); (try clear hb2); (try clear hk); (try clear hi)))
    go_ret
    exact ⟨by first | rfl | (simp [errW_none, errW_some] <;> rfl) | (simp [*, errW_none, errW_some] <;> rfl), by repeat (first | (with_reducible first | exact HB.out | apply below_alloc | apply pw_below_drewN | apply below_drew1) | exact HB.out)⟩
  · rw [if_neg c3] at H
    have c3b0 : decide (60 < (l0.length : Int)) = false := decide_eq_false c3
    have c3b1 : decide (60 < l0.length) = false := decide_eq_false (by omega)
    clear c3
    have H' := Aside0.mk H
    clear H
    go_enter Tryd.func8, Tryd.ntmps8
    go_wp2
    go_loopg [5] k (fun kq v5 w' => ∃ (x5_1 : Int), v5 = .int .i64 x5_1 ∧ Aside0 (armadalaw07_VerMax.l0 kq l0 a1 x5_1 = some true) ∧ Aside0 (kq ≤ k) ∧ Aside0 (Below w.heap.size w w'))
    case atStart => exact ⟨(0), (by first | rfl | (simp; done) | (simp [*]; done)), H', ⟨Nat.le_refl _⟩, ⟨by repeat (first | (with_reducible first | exact HB.out | apply below_alloc | apply pw_below_drewN | apply below_drew1) | exact HB.out)⟩⟩
    case round =>
      clear H'
      try clear c1
      try clear p2
      try clear c3
      try clear c3b0
      try clear c3b1
      obtain ⟨x5_1, rfl, HA, HK1, HB⟩ := hrel
      cases gk with
      | zero => exact absurd HA.out (by simp [armadalaw07_VerMax.l0])
      | succ k1 =>
        have H := HA.out
        clear HA
        simp only [armadalaw07_VerMax.l0] at H
        by_cases c6 : x5_1 < (l0.length : Int)
        · rw [if_pos c6] at H
          have c6b0 : decide (x5_1 < (l0.length : Int)) = true := decide_eq_true c6
          clear c6
          by_cases c7 : 0 ≤ x5_1
          · rw [if_pos c7] at H
            have c7b0 : decide (0 ≤ x5_1) = true := decide_eq_true c7
            clear c7
            by_cases c8 : (((rd_T23 l0 x5_1).f3).size : Int) > 200
            · rw [if_pos c8] at H
              have c8b0 : decide (200 < (((rd_T23 l0 x5_1).f3).size : Int)) = true := decide_eq_true c8
              have c8b1 : decide (200 < ((rd_T23 l0 x5_1).f3).size) = true := decide_eq_true (by omega)
              clear c8
              replace H := Option.bind_eq_some_iff.mp H
              obtain ⟨t497, A90, H⟩ := H
              replace H : (some t497) = some true := H
              have A9 := Aside0.mk A90
              clear A90
              obtain rfl := Option.some.inj H
              have p496 : 0 ≤ (x5_1 : Int) := of_decide_eq_true (by first | (with_reducible assumption) | assumption)
              have q496 : x5_1 < (l0.length : Int) := of_decide_eq_true (by first | (with_reducible assumption) | assumption)
              obtain ⟨ad496, e496, hx496_0, hx496_1, hx496_2, hx496_3, hx496_4⟩ := at_T23 HR0.out x5_1 p496 q496
              cases e496
              replace hx496_0 := (HB.out.cell (World.block_lt_of_cell? w _ hx496_0)).trans hx496_0
              replace hx496_1 := (HB.out.cell (World.block_lt_of_cell? w _ hx496_1)).trans hx496_1
              replace hx496_2 := (HB.out.cell (World.block_lt_of_cell? w _ hx496_2)).trans hx496_2
              replace hx496_3 := (HB.out.cell (World.block_lt_of_cell? w _ hx496_3)).trans hx496_3
              replace hx496_4 := (HB.out.cell (World.block_lt_of_cell? w _ hx496_4)).trans hx496_4
              replace p496 := eq_true p496
              replace q496 := eq_true q496
              go_wp2_with (first | ((with_reducible refine gate_callee (f := 10) rfl ?_); refine goesL_ (some 39) rfl rfl Tryd.func10 (by kernel_rfl) rfl #[] rfl (by (try simp only [List.map_toArray, List.map_cons, List.map_nil]); first | done | rfl | (simp only [List.length_drop, List.length_take]; rfl)) ?_; (with_reducible refine (armadalaw07_live.calls k1  true _ A9.out (LW0 := LW.out.below (by repeat (first | (with_reducible first | exact HB.out | apply below_alloc | apply pw_below_drewN | apply below_drew1) | exact HB.out)))).mono ?_); rintro e w10 ⟨rfl, hb⟩; refine ⟨_, rfl, ?_⟩; have n0_ := Aside0.mk (below_step (by repeat (first | (with_reducible first | exact HB.out | apply below_alloc | apply pw_below_drewN | apply below_drew1) | exact HB.out)) hb); clear HB; have HB := n0_; clear n0_; (try clear hb); (try clear hb2); (try clear hk); (try clear hi)))
              go_ret
              exact ⟨by first | rfl | (simp [errW_none, errW_some] <;> rfl) | (simp [*, errW_none, errW_some] <;> rfl), by repeat (first | (with_reducible first | exact HB.out | apply below_alloc | apply pw_below_drewN | apply below_drew1) | exact HB.out)⟩
            · rw [if_neg c8] at H
              have c8b0 : decide (200 < (((rd_T23 l0 x5_1).f3).size : Int)) = false := decide_eq_false c8
              have c8b1 : decide (200 < ((rd_T23 l0 x5_1).f3).size) = false := decide_eq_false (by omega)
              clear c8
              by_cases c11 : (((rd_T23 l0 x5_1).f4).size : Int) > 200
              · rw [if_pos c11] at H
                have c11b0 : decide (200 < (((rd_T23 l0 x5_1).f4).size : Int)) = true := decide_eq_true c11
                have c11b1 : decide (200 < ((rd_T23 l0 x5_1).f4).size) = true := decide_eq_true (by omega)
                clear c11
                replace H := Option.bind_eq_some_iff.mp H
                obtain ⟨t499, A120, H⟩ := H
                replace H : (some t499) = some true := H
                have A12 := Aside0.mk A120
                clear A120
                obtain rfl := Option.some.inj H
                have p496 : 0 ≤ (x5_1 : Int) := of_decide_eq_true (by first | (with_reducible assumption) | assumption)
                have q496 : x5_1 < (l0.length : Int) := of_decide_eq_true (by first | (with_reducible assumption) | assumption)
                obtain ⟨ad496, e496, hx496_0, hx496_1, hx496_2, hx496_3, hx496_4⟩ := at_T23 HR0.out x5_1 p496 q496
                cases e496
                replace hx496_0 := (HB.out.cell (World.block_lt_of_cell? w _ hx496_0)).trans hx496_0
                replace hx496_1 := (HB.out.cell (World.block_lt_of_cell? w _ hx496_1)).trans hx496_1
                replace hx496_2 := (HB.out.cell (World.block_lt_of_cell? w _ hx496_2)).trans hx496_2
                replace hx496_3 := (HB.out.cell (World.block_lt_of_cell? w _ hx496_3)).trans hx496_3
                replace hx496_4 := (HB.out.cell (World.block_lt_of_cell? w _ hx496_4)).trans hx496_4
                replace p496 := eq_true p496
                replace q496 := eq_true q496
                have p498 : 0 ≤ (x5_1 : Int) := of_decide_eq_true (by first | (with_reducible assumption) | assumption)
                have q498 : x5_1 < (l0.length : Int) := of_decide_eq_true (by first | (with_reducible assumption) | assumption)
                obtain ⟨ad498, e498, hx498_0, hx498_1, hx498_2, hx498_3, hx498_4⟩ := at_T23 HR0.out x5_1 p498 q498
                obtain rfl : ad496 = ad498 := (by injection e498)
                replace hx498_0 := (HB.out.cell (World.block_lt_of_cell? w _ hx498_0)).trans hx498_0
                replace hx498_1 := (HB.out.cell (World.block_lt_of_cell? w _ hx498_1)).trans hx498_1
                replace hx498_2 := (HB.out.cell (World.block_lt_of_cell? w _ hx498_2)).trans hx498_2
                replace hx498_3 := (HB.out.cell (World.block_lt_of_cell? w _ hx498_3)).trans hx498_3
                replace hx498_4 := (HB.out.cell (World.block_lt_of_cell? w _ hx498_4)).trans hx498_4
                replace p498 := eq_true p498
                replace q498 := eq_true q498
                go_wp2_with (first | ((with_reducible refine gate_callee (f := 10) rfl ?_); refine goesL_ (some 39) rfl rfl Tryd.func10 (by kernel_rfl) rfl #[] rfl (by (try simp only [List.map_toArray, List.map_cons, List.map_nil]); first | done | rfl | (simp only [List.length_drop, List.length_take]; rfl)) ?_; (with_reducible refine (armadalaw07_live.calls k1  true _ A12.out (LW0 := LW.out.below (by repeat (first | (with_reducible first | exact HB.out | apply below_alloc | apply pw_below_drewN | apply below_drew1) | exact HB.out)))).mono ?_); rintro e w13 ⟨rfl, hb⟩; refine ⟨_, rfl, ?_⟩; have n0_ := Aside0.mk (below_step (by repeat (first | (with_reducible first | exact HB.out | apply below_alloc | apply pw_below_drewN | apply below_drew1) | exact HB.out)) hb); clear HB; have HB := n0_; clear n0_; (try clear hb); (try clear hb2); (try clear hk); (try clear hi)))
                go_ret
                exact ⟨by first | rfl | (simp [errW_none, errW_some] <;> rfl) | (simp [*, errW_none, errW_some] <;> rfl), by repeat (first | (with_reducible first | exact HB.out | apply below_alloc | apply pw_below_drewN | apply below_drew1) | exact HB.out)⟩
              · rw [if_neg c11] at H
                have c11b0 : decide (200 < (((rd_T23 l0 x5_1).f4).size : Int)) = false := decide_eq_false c11
                have c11b1 : decide (200 < ((rd_T23 l0 x5_1).f4).size) = false := decide_eq_false (by omega)
                clear c11
                have H' := Aside0.mk H
                clear H
                have p496 : 0 ≤ (x5_1 : Int) := of_decide_eq_true (by first | (with_reducible assumption) | assumption)
                have q496 : x5_1 < (l0.length : Int) := of_decide_eq_true (by first | (with_reducible assumption) | assumption)
                obtain ⟨ad496, e496, hx496_0, hx496_1, hx496_2, hx496_3, hx496_4⟩ := at_T23 HR0.out x5_1 p496 q496
                cases e496
                replace hx496_0 := (HB.out.cell (World.block_lt_of_cell? w _ hx496_0)).trans hx496_0
                replace hx496_1 := (HB.out.cell (World.block_lt_of_cell? w _ hx496_1)).trans hx496_1
                replace hx496_2 := (HB.out.cell (World.block_lt_of_cell? w _ hx496_2)).trans hx496_2
                replace hx496_3 := (HB.out.cell (World.block_lt_of_cell? w _ hx496_3)).trans hx496_3
                replace hx496_4 := (HB.out.cell (World.block_lt_of_cell? w _ hx496_4)).trans hx496_4
                replace p496 := eq_true p496
                replace q496 := eq_true q496
                have p498 : 0 ≤ (x5_1 : Int) := of_decide_eq_true (by first | (with_reducible assumption) | assumption)
                have q498 : x5_1 < (l0.length : Int) := of_decide_eq_true (by first | (with_reducible assumption) | assumption)
                obtain ⟨ad498, e498, hx498_0, hx498_1, hx498_2, hx498_3, hx498_4⟩ := at_T23 HR0.out x5_1 p498 q498
                obtain rfl : ad496 = ad498 := (by injection e498)
                replace hx498_0 := (HB.out.cell (World.block_lt_of_cell? w _ hx498_0)).trans hx498_0
                replace hx498_1 := (HB.out.cell (World.block_lt_of_cell? w _ hx498_1)).trans hx498_1
                replace hx498_2 := (HB.out.cell (World.block_lt_of_cell? w _ hx498_2)).trans hx498_2
                replace hx498_3 := (HB.out.cell (World.block_lt_of_cell? w _ hx498_3)).trans hx498_3
                replace hx498_4 := (HB.out.cell (World.block_lt_of_cell? w _ hx498_4)).trans hx498_4
                replace p498 := eq_true p498
                replace q498 := eq_true q498
                go_wp2
                go_roundg k1
                case measure => have := HK1.out; omega
                case rel => exact ⟨(wrap64 (x5_1 + 1)), (by first | rfl | (simp; done) | (simp [*]; done)), H', ⟨by have := HK1.out; omega⟩, ⟨by repeat (first | (with_reducible first | exact HB.out | apply below_alloc | apply pw_below_drewN | apply below_drew1) | exact HB.out)⟩⟩
          · rw [if_neg c7] at H
            exact absurd H (by simp)
        · rw [if_neg c6] at H
          have c6b0 : decide (x5_1 < (l0.length : Int)) = false := decide_eq_false c6
          clear c6
          replace H := Option.bind_eq_some_iff.mp H
          obtain ⟨⟨t500, t501, t502, t503, t504, t505⟩, A140, H⟩ := H
          replace H : (armadalaw07_VerMax.l1 k1 l0 a1 t505 false 0 t500 t501 t502 t503 t504) = some true := H
          have A14 := Aside0.mk A140
          clear A140
          have H' := Aside0.mk H
          clear H
          go_wp2_with (first | ((with_reducible refine gate_callee (f := 21) rfl ?_); refine goesL_ (some 42) rfl rfl Tryd.func21 (by kernel_rfl) rfl #[.slice A0 l0.length c0] rfl (by (try simp only [List.map_toArray, List.map_cons, List.map_nil]); first | done | rfl | (simp only [List.length_drop, List.length_take]; rfl)) ?_; (with_reducible refine (ver_Max.calls k1 _ _ l0 t500 t501 t502 t503 t504 t505 _ ?side1 ?side2 A14.out).mono ?_); (case side1 => repeat (first | exact (Kd.C_below HR0.out HB.out) | (with_reducible refine Kd.C_alloc ?_ _) | (with_reducible refine Kd.C_drewN ?_ _) | (with_reducible refine Kd.C_drew ?_))); (case side2 => exact HC0.out); rintro e w15 ⟨rfl, hb⟩; refine ⟨_, rfl, ?_⟩; have n0_ := Aside0.mk (below_step (by repeat (first | (with_reducible first | exact HB.out | apply below_alloc | apply pw_below_drewN | apply below_drew1) | exact HB.out)) hb); clear HB; have HB := n0_; clear n0_; (try clear hb); (try clear hb2); (try clear hk); (try clear hi)) | ((with_reducible refine gate_dst (N := 6) rfl ?_); (try (refine gate_guard (by rfl) ?_; dsimp only)); refine box_event ?hg (N := 6) ?hd (cs := #[.int .i64 0, .int .i64 0, .int .i64 0, .string (⟨#[]⟩ : ByteArray), .string (⟨#[]⟩ : ByteArray)]) (t := 23) ?hr ?_; (case hd => rfl); (case hg => rfl); (case hr => first | (go_simp; done) | (go_simp; rfl)); intro gb506 hg w16 hbox hb; have n0_ := Aside0.mk (below_step (by repeat (first | (with_reducible first | exact HB.out | apply below_alloc | apply pw_below_drewN | apply below_drew1) | exact HB.out)) hb); have n1_ := Aside0.mk (hbox); have n2_ := Aside0.mk ((by rw [hg]; exact (below_size (by repeat (first | (with_reducible first | exact HB.out | apply below_alloc | apply pw_below_drewN | apply below_drew1) | exact HB.out))) : w.heap.size ≤ gb506)); have n3_ := Aside0.mk ((by rw [hg]; exact (below_size (by repeat (first | (with_reducible first | exact HB.out | apply below_alloc | apply pw_below_drewN | apply below_drew1) | exact HB.out))) : w.heap.size ≤ gb506)); clear HB; have HB := n0_; have BK506 := n1_; have GW506 := n2_; have GE506 := n3_; clear n0_ n1_ n2_ n3_; clear hb hbox hg; have hcz17_0 : w16.cell? ⟨gb506, 0, none⟩ = some (.int .i64 0) := (blk_cell BK506.out 0).trans rfl; have hcz17_1 : w16.cell? ⟨gb506, 1, none⟩ = some (.int .i64 0) := (blk_cell BK506.out 1).trans rfl; have hcz17_2 : w16.cell? ⟨gb506, 2, none⟩ = some (.int .i64 0) := (blk_cell BK506.out 2).trans rfl; have hcz17_3 : w16.cell? ⟨gb506, 3, none⟩ = some (.string (⟨#[]⟩ : ByteArray)) := (blk_cell BK506.out 3).trans rfl; have hcz17_4 : w16.cell? ⟨gb506, 4, none⟩ = some (.string (⟨#[]⟩ : ByteArray)) := (blk_cell BK506.out 4).trans rfl; have hfz17_0 := blk_frozen BK506.out 0; have hfz17_1 := blk_frozen BK506.out 1; have hfz17_2 := blk_frozen BK506.out 2; have hfz17_3 := blk_frozen BK506.out 3; have hfz17_4 := blk_frozen BK506.out 4))
          go_loopg [8, 9] k1 (fun kq v8 v9 w' => ∃ (x8_2 : Bool) (x9_2 : Int), v8 = .bool x8_2 ∧ v9 = .int .i64 x9_2 ∧ Aside0 (armadalaw07_VerMax.l1 kq l0 a1 t505 x8_2 x9_2 t500 t501 t502 t503 t504 = some true) ∧ Aside0 (kq ≤ k1) ∧ Aside0 (w'.heap[gb506]? = some (.cells #[.int .i64 t500, .int .i64 t501, .int .i64 t502, .string t503, .string t504] 23 (0, 0))) ∧ Aside0 (Below w.heap.size w w'))
          case atStart => exact ⟨(false), (0), (by first | rfl | (simp; done) | (simp [*]; done)), (by first | rfl | (simp; done) | (simp [*]; done)), H', ⟨Nat.le_refl _⟩, ⟨by (with_reducible repeat (first | refine blk_drewN ?_ _ | refine blk_drew ?_ | refine blk_alloc ?_ _)); refine blk_put (cs := #[.int .i64 t500, .int .i64 t501, .int .i64 t502, .string t503, .string (⟨#[]⟩ : ByteArray)]) ?_ 4 _ rfl; (with_reducible repeat (first | refine blk_drewN ?_ _ | refine blk_drew ?_ | refine blk_alloc ?_ _)); refine blk_put (cs := #[.int .i64 t500, .int .i64 t501, .int .i64 t502, .string (⟨#[]⟩ : ByteArray), .string (⟨#[]⟩ : ByteArray)]) ?_ 3 _ rfl; (with_reducible repeat (first | refine blk_drewN ?_ _ | refine blk_drew ?_ | refine blk_alloc ?_ _)); refine blk_put (cs := #[.int .i64 t500, .int .i64 t501, .int .i64 0, .string (⟨#[]⟩ : ByteArray), .string (⟨#[]⟩ : ByteArray)]) ?_ 2 _ rfl; (with_reducible repeat (first | refine blk_drewN ?_ _ | refine blk_drew ?_ | refine blk_alloc ?_ _)); refine blk_put (cs := #[.int .i64 t500, .int .i64 0, .int .i64 0, .string (⟨#[]⟩ : ByteArray), .string (⟨#[]⟩ : ByteArray)]) ?_ 1 _ rfl; (with_reducible repeat (first | refine blk_drewN ?_ _ | refine blk_drew ?_ | refine blk_alloc ?_ _)); refine blk_put (cs := #[.int .i64 0, .int .i64 0, .int .i64 0, .string (⟨#[]⟩ : ByteArray), .string (⟨#[]⟩ : ByteArray)]) ?_ 0 _ rfl; (with_reducible repeat (first | refine blk_drewN ?_ _ | refine blk_drew ?_ | refine blk_alloc ?_ _)); exact BK506.out⟩, ⟨by repeat (first | (with_reducible first | exact HB.out | apply below_alloc | apply pw_below_drewN | apply below_drew1 | refine below_set ?_ GE506.out) | exact HB.out)⟩⟩
          case round =>
            clear H'
            try clear c1
            try clear c2
            try clear p2
            try clear c3
            try clear c3b0
            try clear c3b1
            try clear p4
            try clear q4
            try clear hx4
            try clear c6
            try clear c6b0
            try clear p6
            try clear c7
            try clear c7b0
            try clear c8
            try clear c8b0
            try clear c8b1
            try clear c10
            try clear c11
            try clear c11b0
            try clear c11b1
            try clear hcz17_0
            try clear hcz17_1
            try clear hcz17_2
            try clear hcz17_3
            try clear hcz17_4
            try clear hfz17_0
            try clear hfz17_1
            try clear hfz17_2
            try clear hfz17_3
            try clear hfz17_4
            try clear hx496_0
            try clear hx496_1
            try clear hx496_2
            try clear hx496_3
            try clear hx496_4
            try clear hx498_0
            try clear hx498_1
            try clear hx498_2
            try clear hx498_3
            try clear hx498_4
            try clear p2
            try clear p496
            try clear p498
            try clear q496
            try clear q498
            obtain ⟨x8_2, x9_2, rfl, rfl, HA, HK2, BK506, HB⟩ := hrel
            cases gk with
            | zero => exact absurd HA.out (by simp [armadalaw07_VerMax.l1])
            | succ k2 =>
              have H := HA.out
              clear HA
              simp only [armadalaw07_VerMax.l1] at H
              by_cases c18 : x9_2 < (l0.length : Int)
              · rw [if_pos c18] at H
                have c18b0 : decide (x9_2 < (l0.length : Int)) = true := decide_eq_true c18
                clear c18
                by_cases c19 : 0 ≤ x9_2
                · rw [if_pos c19] at H
                  have c19b0 : decide (0 ≤ x9_2) = true := decide_eq_true c19
                  clear c19
                  replace H := Option.bind_eq_some_iff.mp H
                  obtain ⟨t508, A200, H⟩ := H
                  replace H : (if t508 = true then (if t505 = true then ((ver_Compare.f k2 ((rd_T23 l0 x9_2).f0) ((rd_T23 l0 x9_2).f1) ((rd_T23 l0 x9_2).f2) ((rd_T23 l0 x9_2).f3) ((rd_T23 l0 x9_2).f4) t500 t501 t502 t503 t504).bind fun t510 => (if t510 > 0 then (some false) else (if x8_2 = true then (armadalaw07_VerMax.l1 k2 l0 a1 t505 true (wrap64 (x9_2 + 1)) t500 t501 t502 t503 t504) else (armadalaw07_VerMax.l1 k2 l0 a1 t505 (((rd_T23 l0 x9_2).f0) == t500 && (((rd_T23 l0 x9_2).f1) == t501 && (((rd_T23 l0 x9_2).f2) == t502 && ((((rd_T23 l0 x9_2).f3).toList) == t503.toList && ((((rd_T23 l0 x9_2).f4).toList) == t504.toList))))) (wrap64 (x9_2 + 1)) t500 t501 t502 t503 t504)))) else (some false)) else (armadalaw07_VerMax.l1 k2 l0 a1 t505 x8_2 (wrap64 (x9_2 + 1)) t500 t501 t502 t503 t504)) = some true := H
                  have A20 := Aside0.mk A200
                  clear A200
                  by_cases c21 : t508 = true
                  · subst c21
                    have H1 : (if t505 = true then ((ver_Compare.f k2 ((rd_T23 l0 x9_2).f0) ((rd_T23 l0 x9_2).f1) ((rd_T23 l0 x9_2).f2) ((rd_T23 l0 x9_2).f3) ((rd_T23 l0 x9_2).f4) t500 t501 t502 t503 t504).bind fun t510 => (if t510 > 0 then (some false) else (if x8_2 = true then (armadalaw07_VerMax.l1 k2 l0 a1 t505 true (wrap64 (x9_2 + 1)) t500 t501 t502 t503 t504) else (armadalaw07_VerMax.l1 k2 l0 a1 t505 (((rd_T23 l0 x9_2).f0) == t500 && (((rd_T23 l0 x9_2).f1) == t501 && (((rd_T23 l0 x9_2).f2) == t502 && ((((rd_T23 l0 x9_2).f3).toList) == t503.toList && ((((rd_T23 l0 x9_2).f4).toList) == t504.toList))))) (wrap64 (x9_2 + 1)) t500 t501 t502 t503 t504)))) else (some false)) = some true := by rw [if_pos rfl] at H; exact H
                    clear H
                    have H := H1
                    clear H1
                    by_cases c22 : t505 = true
                    · subst c22
                      have H1 : ((ver_Compare.f k2 ((rd_T23 l0 x9_2).f0) ((rd_T23 l0 x9_2).f1) ((rd_T23 l0 x9_2).f2) ((rd_T23 l0 x9_2).f3) ((rd_T23 l0 x9_2).f4) t500 t501 t502 t503 t504).bind fun t510 => (if t510 > 0 then (some false) else (if x8_2 = true then (armadalaw07_VerMax.l1 k2 l0 a1 true true (wrap64 (x9_2 + 1)) t500 t501 t502 t503 t504) else (armadalaw07_VerMax.l1 k2 l0 a1 true (((rd_T23 l0 x9_2).f0) == t500 && (((rd_T23 l0 x9_2).f1) == t501 && (((rd_T23 l0 x9_2).f2) == t502 && ((((rd_T23 l0 x9_2).f3).toList) == t503.toList && ((((rd_T23 l0 x9_2).f4).toList) == t504.toList))))) (wrap64 (x9_2 + 1)) t500 t501 t502 t503 t504)))) = some true := by rw [if_pos rfl] at H; exact H
                      clear H
                      have H := H1
                      clear H1
                      replace H := Option.bind_eq_some_iff.mp H
                      obtain ⟨t510, A230, H⟩ := H
                      replace H : (if t510 > 0 then (some false) else (if x8_2 = true then (armadalaw07_VerMax.l1 k2 l0 a1 true true (wrap64 (x9_2 + 1)) t500 t501 t502 t503 t504) else (armadalaw07_VerMax.l1 k2 l0 a1 true (((rd_T23 l0 x9_2).f0) == t500 && (((rd_T23 l0 x9_2).f1) == t501 && (((rd_T23 l0 x9_2).f2) == t502 && ((((rd_T23 l0 x9_2).f3).toList) == t503.toList && ((((rd_T23 l0 x9_2).f4).toList) == t504.toList))))) (wrap64 (x9_2 + 1)) t500 t501 t502 t503 t504))) = some true := H
                      have A23 := Aside0.mk A230
                      clear A230
                      by_cases c24 : t510 > 0
                      · rw [if_pos c24] at H
                        have c24b0 : decide (0 < t510) = true := decide_eq_true c24
                        clear c24
                        exact absurd H (by simp)
                      · rw [if_neg c24] at H
                        have c24b0 : decide (0 < t510) = false := decide_eq_false c24
                        clear c24
                        by_cases c25 : x8_2 = true
                        · subst c25
                          have H1 : (armadalaw07_VerMax.l1 k2 l0 a1 true true (wrap64 (x9_2 + 1)) t500 t501 t502 t503 t504) = some true := by rw [if_pos rfl] at H; exact H
                          clear H
                          have H := H1
                          clear H1
                          have H' := Aside0.mk H
                          clear H
                          have p507 : 0 ≤ (x9_2 : Int) := of_decide_eq_true (by first | (with_reducible assumption) | assumption)
                          have q507 : x9_2 < (l0.length : Int) := of_decide_eq_true (by first | (with_reducible assumption) | assumption)
                          obtain ⟨ad507, e507, hx507_0, hx507_1, hx507_2, hx507_3, hx507_4⟩ := at_T23 HR0.out x9_2 p507 q507
                          cases e507
                          replace hx507_0 := (HB.out.cell (World.block_lt_of_cell? w _ hx507_0)).trans hx507_0
                          replace hx507_1 := (HB.out.cell (World.block_lt_of_cell? w _ hx507_1)).trans hx507_1
                          replace hx507_2 := (HB.out.cell (World.block_lt_of_cell? w _ hx507_2)).trans hx507_2
                          replace hx507_3 := (HB.out.cell (World.block_lt_of_cell? w _ hx507_3)).trans hx507_3
                          replace hx507_4 := (HB.out.cell (World.block_lt_of_cell? w _ hx507_4)).trans hx507_4
                          replace p507 := eq_true p507
                          replace q507 := eq_true q507
                          try go_wp2_with (first | ((with_reducible refine gate_callee (f := 13) rfl ?_); refine goesL_ (some 55) rfl rfl Tryd.func13 (by kernel_rfl) rfl #[.agg #[.int .i64 ((rd_T23 l0 x9_2).f0), .int .i64 ((rd_T23 l0 x9_2).f1), .int .i64 ((rd_T23 l0 x9_2).f2), .string ((rd_T23 l0 x9_2).f3), .string ((rd_T23 l0 x9_2).f4)]] rfl (by (try simp only [List.map_toArray, List.map_cons, List.map_nil]); first | done | rfl | (simp only [List.length_drop, List.length_take]; rfl)) ?_; (with_reducible refine (ver_Check.calls ((rd_T23 l0 x9_2).f0) ((rd_T23 l0 x9_2).f1) ((rd_T23 l0 x9_2).f2) ((rd_T23 l0 x9_2).f3) ((rd_T23 l0 x9_2).f4) true _ A20.out).mono ?_); rintro e w26 ⟨rfl, hb⟩; refine ⟨_, rfl, ?_⟩; have n0_ := Aside0.mk (blk_below (g := gb506) (o := .cells #[.int .i64 t500, .int .i64 t501, .int .i64 t502, .string t503, .string t504] 23 (0, 0)) (by (with_reducible repeat (first | refine blk_drewN ?_ _ | refine blk_drew ?_ | refine blk_alloc ?_ _)); exact BK506.out) hb); have n1_ := Aside0.mk (below_step (by repeat (first | (with_reducible first | exact HB.out | apply below_alloc | apply pw_below_drewN | apply below_drew1 | refine below_set ?_ GE506.out) | exact HB.out)) hb); clear BK506; clear HB; have BK506 := n0_; have HB := n1_; clear n0_ n1_; (try clear hb); (try clear hb2); (try clear hk); (try clear hi)))
                          have n0_ := Aside0.mk (blk_drew BK506.out)
                          have n1_ := Aside0.mk (below_drew1 HB.out)
                          clear BK506
                          clear HB
                          have BK506 := n0_
                          have HB := n1_
                          clear n0_ n1_
                          have p509 : 0 ≤ (x9_2 : Int) := of_decide_eq_true (by first | (with_reducible assumption) | assumption)
                          have q509 : x9_2 < (l0.length : Int) := of_decide_eq_true (by first | (with_reducible assumption) | assumption)
                          obtain ⟨ad509, e509, hx509_0, hx509_1, hx509_2, hx509_3, hx509_4⟩ := at_T23 HR0.out x9_2 p509 q509
                          have hw509_4 := hx509_4
                          have hw509_3 := hx509_3
                          have hw509_2 := hx509_2
                          have hw509_1 := hx509_1
                          have hw509_0 := hx509_0
                          obtain rfl : ad507 = ad509 := (by injection e509)
                          replace hx509_0 := (HB.out.cell (World.block_lt_of_cell? w _ hx509_0)).trans hx509_0
                          replace hx509_1 := (HB.out.cell (World.block_lt_of_cell? w _ hx509_1)).trans hx509_1
                          replace hx509_2 := (HB.out.cell (World.block_lt_of_cell? w _ hx509_2)).trans hx509_2
                          replace hx509_3 := (HB.out.cell (World.block_lt_of_cell? w _ hx509_3)).trans hx509_3
                          replace hx509_4 := (HB.out.cell (World.block_lt_of_cell? w _ hx509_4)).trans hx509_4
                          replace p509 := eq_true p509
                          replace q509 := eq_true q509
                          refine start_ (n := 11) (S := fun w' => w'.cell? ⟨gb506, 0, none⟩ = some (.int .i64 t500) ∧ w'.cell? ⟨gb506, 1, none⟩ = some (.int .i64 t501) ∧ w'.cell? ⟨gb506, 2, none⟩ = some (.int .i64 t502) ∧ w'.cell? ⟨gb506, 3, none⟩ = some (.string t503) ∧ w'.cell? ⟨gb506, 4, none⟩ = some (.string t504) ∧ w'.cell? (ad507.add ((x9_2).toNat * 5)) = some (.int .i64 ((rd_T23 l0 x9_2).f0)) ∧ w'.cell? ⟨(ad507.add ((x9_2).toNat * 5)).block, (ad507.add ((x9_2).toNat * 5)).off + 1, none⟩ = some (.int .i64 ((rd_T23 l0 x9_2).f1)) ∧ w'.cell? ⟨(ad507.add ((x9_2).toNat * 5)).block, (ad507.add ((x9_2).toNat * 5)).off + 2, none⟩ = some (.int .i64 ((rd_T23 l0 x9_2).f2)) ∧ w'.cell? ⟨(ad507.add ((x9_2).toNat * 5)).block, (ad507.add ((x9_2).toNat * 5)).off + 3, none⟩ = some (.string ((rd_T23 l0 x9_2).f3)) ∧ w'.cell? ⟨(ad507.add ((x9_2).toNat * 5)).block, (ad507.add ((x9_2).toNat * 5)).off + 4, none⟩ = some (.string ((rd_T23 l0 x9_2).f4))) (ds := []) #[false, false, false, false, false, false, false, false, false, false, false] (by kernel_rfl) rfl rfl ⟨(blk_cell BK506.out 0).trans rfl, (blk_cell BK506.out 1).trans rfl, (blk_cell BK506.out 2).trans rfl, (blk_cell BK506.out 3).trans rfl, (blk_cell BK506.out 4).trans rfl, ((HB.out.cell (World.block_lt_of_cell? w _ hw509_0)).trans hw509_0), ((HB.out.cell (World.block_lt_of_cell? w _ hw509_1)).trans hw509_1), ((HB.out.cell (World.block_lt_of_cell? w _ hw509_2)).trans hw509_2), ((HB.out.cell (World.block_lt_of_cell? w _ hw509_3)).trans hw509_3), ((HB.out.cell (World.block_lt_of_cell? w _ hw509_4)).trans hw509_4)⟩ (fun hHeld => ?_); refine with_tabW armadalaw07_VerMax.tab14 armadalaw07_VerMax.bits14 (fun HT_ HW_ => ?_)
                          generalize w26.drew = w27 at BK506 HB hx509_0 hx509_1 hx509_2 hx509_3 hx509_4 hHeld ⊢
                          refine pure_ (i := 0) (N := some 56) (v := ?_) (a' := ?_) #[true, false, false, false, false, false, false, false, false, false, false] rfl rfl (any_of HT_.out (by kernel_rfl)) (fun _ _ _ h => h) (Or.inl ⟨by rfl, ?_⟩) ?_ ?_
                          rotate_left
                          · intro w'
                            go_simp
                            with_reducible rfl
                          rotate_left
                          · simp only [Act.put, List.setIfInBounds_toArray, List.set_cons_zero, List.set_cons_succ, i64_w, i32_w]
                            rfl
                          refine pure_ (i := 1) (N := some 57) (v := ?_) (a' := ?_) #[true, true, false, false, false, false, false, false, false, false, false] rfl rfl (any_of HT_.out (by kernel_rfl)) (fun _ _ _ h => h) (Or.inl ⟨by rfl, ?_⟩) ?_ ?_
                          rotate_left
                          · intro w'
                            go_simp
                            with_reducible rfl
                          rotate_left
                          · simp only [Act.put, List.setIfInBounds_toArray, List.set_cons_zero, List.set_cons_succ, i64_w, i32_w]
                            rfl
                          refine pure_ (i := 2) (N := some 58) (v := ?_) (a' := ?_) #[true, true, true, false, false, false, false, false, false, false, false] rfl rfl (any_of HT_.out (by kernel_rfl)) (fun _ _ _ h => h) (Or.inl ⟨by rfl, ?_⟩) ?_ ?_
                          rotate_left
                          · intro w'
                            go_simp
                            with_reducible rfl
                          rotate_left
                          · simp only [Act.put, List.setIfInBounds_toArray, List.set_cons_zero, List.set_cons_succ, i64_w, i32_w]
                            rfl
                          refine pure_ (i := 3) (N := some 59) (v := ?_) (a' := ?_) #[true, true, true, true, false, false, false, false, false, false, false] rfl rfl (any_of HT_.out (by kernel_rfl)) (fun _ _ _ h => h) (Or.inl ⟨by rfl, ?_⟩) ?_ ?_
                          rotate_left
                          · intro w'
                            go_simp
                            with_reducible rfl
                          rotate_left
                          · simp only [Act.put, List.setIfInBounds_toArray, List.set_cons_zero, List.set_cons_succ, i64_w, i32_w]
                            rfl
                          refine pure_ (i := 4) (N := some 60) (v := ?_) (a' := ?_) #[true, true, true, true, true, false, false, false, false, false, false] rfl rfl (any_of HT_.out (by kernel_rfl)) (fun _ _ _ h => h) (Or.inl ⟨by rfl, ?_⟩) ?_ ?_
                          rotate_left
                          · intro w'
                            go_simp
                            with_reducible rfl
                          rotate_left
                          · simp only [Act.put, List.setIfInBounds_toArray, List.set_cons_zero, List.set_cons_succ, i64_w, i32_w]
                            rfl
                          refine pure_ (i := 5) (N := some 61) (v := ?_) (a' := ?_) #[true, true, true, true, true, true, false, false, false, false, false] rfl rfl (any_of HT_.out (by kernel_rfl)) (fun _ _ _ h => h) (Or.inl ⟨by rfl, ?_⟩) ?_ ?_
                          rotate_left
                          · intro w'
                            go_simp
                            with_reducible rfl
                          rotate_left
                          · simp only [Act.put, List.setIfInBounds_toArray, List.set_cons_zero, List.set_cons_succ, i64_w, i32_w]
                            rfl
                          refine take_ (i := 6) (N := some 62) (v := ?_) (a' := ?_) #[true, true, true, true, true, true, true, false, false, false, false] rfl rfl (take_ofW HT_.out HW_.out (by kernel_rfl)) (fun _ _ _ h => h) (Or.inl ⟨by rfl, ?_⟩) hHeld ?_ ?_
                          rotate_left
                          · rintro w' ⟨s0, s1, s2, s3, s4, s5, s6, s7, s8, s9⟩
                            go_simp
                            with_reducible rfl
                          rotate_left
                          · simp only [Act.put, List.setIfInBounds_toArray, List.set_cons_zero, List.set_cons_succ, i64_w, i32_w]
                            rfl
                          refine take_ (i := 7) (N := some 63) (v := ?_) (a' := ?_) #[true, true, true, true, true, true, true, true, false, false, false] rfl rfl (take_ofW HT_.out HW_.out (by kernel_rfl)) (fun _ _ _ h => h) (Or.inl ⟨by rfl, ?_⟩) hHeld ?_ ?_
                          rotate_left
                          · rintro w' ⟨s0, s1, s2, s3, s4, s5, s6, s7, s8, s9⟩
                            go_simp
                            with_reducible rfl
                          rotate_left
                          · simp only [Act.put, List.setIfInBounds_toArray, List.set_cons_zero, List.set_cons_succ, i64_w, i32_w]
                            rfl
                          refine one_ (i := 8) (N := some 64) #[true, true, true, true, true, true, true, true, true, false, false] rfl rfl (one_of HT_.out (by kernel_rfl)) (by decide) (fun K hK => ?_)
                          refine goes_ Tryd.func19 (by kernel_rfl) rfl #[.agg #[.int .i64 ((rd_T23 l0 x9_2).f0), .int .i64 ((rd_T23 l0 x9_2).f1), .int .i64 ((rd_T23 l0 x9_2).f2), .string ((rd_T23 l0 x9_2).f3), .string ((rd_T23 l0 x9_2).f4)], .agg #[.int .i64 t500, .int .i64 t501, .int .i64 t502, .string t503, .string t504]] (by rfl) rfl rfl (by (try simp only [List.map_toArray, List.map_cons, List.map_nil]); first | done | rfl | (simp only [List.length_drop, List.length_take]; rfl)) ?_
                          with_reducible refine (ver_Compare.calls k2 ((rd_T23 l0 x9_2).f0) ((rd_T23 l0 x9_2).f1) ((rd_T23 l0 x9_2).f2) ((rd_T23 l0 x9_2).f3) ((rd_T23 l0 x9_2).f4) t500 t501 t502 t503 t504 t510 _ A23.out).mono ?_
                          rintro e w28 ⟨rfl, hb⟩
                          refine ⟨_, rfl, ?_⟩
                          have n0_ := Aside0.mk (blk_below (g := gb506) (o := .cells #[.int .i64 t500, .int .i64 t501, .int .i64 t502, .string t503, .string t504] 23 (0, 0)) (by (with_reducible repeat (first | refine blk_drewN ?_ _ | refine blk_drew ?_ | refine blk_alloc ?_ _)); exact BK506.out) hb)
                          have n1_ := Aside0.mk (below_step (by repeat (first | (with_reducible first | exact HB.out | apply below_alloc | apply pw_below_drewN | apply below_drew1 | refine below_set ?_ GE506.out) | exact HB.out)) hb)
                          clear BK506
                          clear HB
                          have BK506 := n0_
                          have HB := n1_
                          clear n0_ n1_
                          (try clear hb)
                          (try clear hb2)
                          (try clear hk)
                          (try clear hi)
                          refine hK.out _ _ ⟨(blk_cell BK506.out 0).trans rfl, (blk_cell BK506.out 1).trans rfl, (blk_cell BK506.out 2).trans rfl, (blk_cell BK506.out 3).trans rfl, (blk_cell BK506.out 4).trans rfl, ((HB.out.cell (World.block_lt_of_cell? w _ hw509_0)).trans hw509_0), ((HB.out.cell (World.block_lt_of_cell? w _ hw509_1)).trans hw509_1), ((HB.out.cell (World.block_lt_of_cell? w _ hw509_2)).trans hw509_2), ((HB.out.cell (World.block_lt_of_cell? w _ hw509_3)).trans hw509_3), ((HB.out.cell (World.block_lt_of_cell? w _ hw509_4)).trans hw509_4)⟩ (fun hHeld => ?_)
                          clear hK K
                          refine norm_ (a' := ?_) ?_ ?_
                          rotate_left
                          · show Act.put _ (some 64) _ = _
                            simp only [Act.put, List.setIfInBounds_toArray, List.set_cons_zero, List.set_cons_succ, i64_w, i32_w]
                            rfl
                          refine pure_ (i := 9) (N := some 65) (v := ?_) (a' := ?_) #[true, true, true, true, true, true, true, true, true, true, false] rfl rfl (any_of HT_.out (by kernel_rfl)) (fun _ _ _ h => h) (Or.inl ⟨by rfl, ?_⟩) ?_ ?_
                          rotate_left
                          · intro w'
                            go_simp
                            with_reducible rfl
                          rotate_left
                          · simp only [Act.put, List.setIfInBounds_toArray, List.set_cons_zero, List.set_cons_succ, i64_w, i32_w]
                            rfl
                          refine pure_ (i := 10) (N := some 66) (v := ?_) (a' := ?_) #[true, true, true, true, true, true, true, true, true, true, true] rfl rfl (any_of HT_.out (by kernel_rfl)) (fun _ _ _ h => h) (Or.inl ⟨by rfl, ?_⟩) ?_ ?_
                          rotate_left
                          · intro w'
                            go_simp
                            with_reducible rfl
                          rotate_left
                          · simp only [Act.put, List.setIfInBounds_toArray, List.set_cons_zero, List.set_cons_succ, i64_w, i32_w]
                            rfl
                          refine done_ (done_of HT_.out (by kernel_rfl)) ?_
                          try go_wp2
                          have n0_ := Aside0.mk (blk_drew BK506.out)
                          have n1_ := Aside0.mk (below_drew1 HB.out)
                          clear BK506
                          clear HB
                          have BK506 := n0_
                          have HB := n1_
                          clear n0_ n1_
                          refine start_ (n := 10) (S := fun w' => True) (ds := []) #[false, false, false, false, false, false, false, false, false, false] (by kernel_rfl) rfl rfl trivial (fun hHeld => ?_); refine with_tabW armadalaw07_VerMax.tab16 armadalaw07_VerMax.bits16 (fun HT_ HW_ => ?_)
                          generalize w28.drew = w29 at BK506 HB hHeld ⊢
                          refine pure_ (i := 0) (N := some 67) (v := ?_) (a' := ?_) #[true, false, false, false, false, false, false, false, false, false] rfl rfl (any_of HT_.out (by kernel_rfl)) (fun _ _ _ h => h) (Or.inl ⟨by rfl, ?_⟩) ?_ ?_
                          rotate_left
                          · intro w'
                            go_simp
                            with_reducible rfl
                          rotate_left
                          · simp only [Act.put, List.setIfInBounds_toArray, List.set_cons_zero, List.set_cons_succ, i64_w, i32_w]
                            rfl
                          refine pure_ (i := 1) (N := some 68) (v := ?_) (a' := ?_) #[true, true, false, false, false, false, false, false, false, false] rfl rfl (any_of HT_.out (by kernel_rfl)) (fun _ _ _ h => h) (Or.inl ⟨by rfl, ?_⟩) ?_ ?_
                          rotate_left
                          · intro w'
                            go_simp
                            with_reducible rfl
                          rotate_left
                          · simp only [Act.put, List.setIfInBounds_toArray, List.set_cons_zero, List.set_cons_succ, i64_w, i32_w]
                            rfl
                          refine pure_ (i := 2) (N := some 69) (v := undef) (a' := ?_) #[true, true, true, false, false, false, false, false, false, false] rfl rfl (any_of HT_.out (by kernel_rfl)) (fun _ _ _ h => h) (Or.inr ⟨by rfl, rfl⟩) ?_ ?_
                          rotate_left
                          · simp only [Act.put, List.setIfInBounds_toArray, List.set_cons_zero, List.set_cons_succ, i64_w, i32_w]
                            rfl
                          refine pure_ (i := 3) (N := some 70) (v := undef) (a' := ?_) #[true, true, true, true, false, false, false, false, false, false] rfl rfl (any_of HT_.out (by kernel_rfl)) (fun _ _ _ h => h) (Or.inr ⟨by rfl, rfl⟩) ?_ ?_
                          rotate_left
                          · simp only [Act.put, List.setIfInBounds_toArray, List.set_cons_zero, List.set_cons_succ, i64_w, i32_w]
                            rfl
                          refine pure_ (i := 4) (N := some 71) (v := undef) (a' := ?_) #[true, true, true, true, true, false, false, false, false, false] rfl rfl (any_of HT_.out (by kernel_rfl)) (fun _ _ _ h => h) (Or.inr ⟨by rfl, rfl⟩) ?_ ?_
                          rotate_left
                          · simp only [Act.put, List.setIfInBounds_toArray, List.set_cons_zero, List.set_cons_succ, i64_w, i32_w]
                            rfl
                          refine pure_ (i := 5) (N := some 72) (v := undef) (a' := ?_) #[true, true, true, true, true, true, false, false, false, false] rfl rfl (any_of HT_.out (by kernel_rfl)) (fun _ _ _ h => h) (Or.inr ⟨by rfl, rfl⟩) ?_ ?_
                          rotate_left
                          · simp only [Act.put, List.setIfInBounds_toArray, List.set_cons_zero, List.set_cons_succ, i64_w, i32_w]
                            rfl
                          refine pure_ (i := 6) (N := some 73) (v := undef) (a' := ?_) #[true, true, true, true, true, true, true, false, false, false] rfl rfl (any_of HT_.out (by kernel_rfl)) (fun _ _ _ h => h) (Or.inr ⟨by rfl, rfl⟩) ?_ ?_
                          rotate_left
                          · simp only [Act.put, List.setIfInBounds_toArray, List.set_cons_zero, List.set_cons_succ, i64_w, i32_w]
                            rfl
                          refine pure_ (i := 7) (N := some 74) (v := undef) (a' := ?_) #[true, true, true, true, true, true, true, true, false, false] rfl rfl (any_of HT_.out (by kernel_rfl)) (fun _ _ _ h => h) (Or.inr ⟨by rfl, rfl⟩) ?_ ?_
                          rotate_left
                          · simp only [Act.put, List.setIfInBounds_toArray, List.set_cons_zero, List.set_cons_succ, i64_w, i32_w]
                            rfl
                          refine pure_ (i := 8) (N := some 75) (v := ?_) (a' := ?_) #[true, true, true, true, true, true, true, true, true, false] rfl rfl (any_of HT_.out (by kernel_rfl)) (fun _ _ _ h => h) (Or.inl ⟨by rfl, ?_⟩) ?_ ?_
                          rotate_left
                          · intro w'
                            go_simp
                            with_reducible rfl
                          rotate_left
                          · simp only [Act.put, List.setIfInBounds_toArray, List.set_cons_zero, List.set_cons_succ, i64_w, i32_w]
                            rfl
                          refine pure_ (i := 9) (N := some 8) (v := ?_) (a' := ?_) #[true, true, true, true, true, true, true, true, true, true] rfl rfl (any_of HT_.out (by kernel_rfl)) (fun _ _ _ h => h) (Or.inl ⟨by rfl, ?_⟩) ?_ ?_
                          rotate_left
                          · intro w'
                            go_simp
                            with_reducible rfl
                          rotate_left
                          · simp only [Act.put, List.setIfInBounds_toArray, List.set_cons_zero, List.set_cons_succ, i64_w, i32_w]
                            rfl
                          refine done_ (done_of HT_.out (by kernel_rfl)) ?_
                          try go_wp2
                          go_roundg k2
                          case measure => have := HK1.out; have := HK2.out; omega
                          case rel => exact ⟨(true), (wrap64 (x9_2 + 1)), (by first | rfl | (simp; done) | (simp [*]; done)), (by first | rfl | (simp; done) | (simp [*]; done)), H', ⟨by have := HK1.out; have := HK2.out; omega⟩, ⟨by (with_reducible repeat (first | refine blk_drewN ?_ _ | refine blk_drew ?_ | refine blk_alloc ?_ _)); exact BK506.out⟩, ⟨by repeat (first | (with_reducible first | exact HB.out | apply below_alloc | apply pw_below_drewN | apply below_drew1 | refine below_set ?_ GE506.out) | exact HB.out)⟩⟩
                        · replace c25 := Bool.eq_false_iff.mpr c25
                          subst c25
                          have H1 : (armadalaw07_VerMax.l1 k2 l0 a1 true (((rd_T23 l0 x9_2).f0) == t500 && (((rd_T23 l0 x9_2).f1) == t501 && (((rd_T23 l0 x9_2).f2) == t502 && ((((rd_T23 l0 x9_2).f3).toList) == t503.toList && ((((rd_T23 l0 x9_2).f4).toList) == t504.toList))))) (wrap64 (x9_2 + 1)) t500 t501 t502 t503 t504) = some true := by rw [if_neg (show ¬ (false = true) by decide)] at H; exact H
                          clear H
                          have H := H1
                          clear H1
                          have H' := Aside0.mk H
                          clear H
                          have p507 : 0 ≤ (x9_2 : Int) := of_decide_eq_true (by first | (with_reducible assumption) | assumption)
                          have q507 : x9_2 < (l0.length : Int) := of_decide_eq_true (by first | (with_reducible assumption) | assumption)
                          obtain ⟨ad507, e507, hx507_0, hx507_1, hx507_2, hx507_3, hx507_4⟩ := at_T23 HR0.out x9_2 p507 q507
                          cases e507
                          replace hx507_0 := (HB.out.cell (World.block_lt_of_cell? w _ hx507_0)).trans hx507_0
                          replace hx507_1 := (HB.out.cell (World.block_lt_of_cell? w _ hx507_1)).trans hx507_1
                          replace hx507_2 := (HB.out.cell (World.block_lt_of_cell? w _ hx507_2)).trans hx507_2
                          replace hx507_3 := (HB.out.cell (World.block_lt_of_cell? w _ hx507_3)).trans hx507_3
                          replace hx507_4 := (HB.out.cell (World.block_lt_of_cell? w _ hx507_4)).trans hx507_4
                          replace p507 := eq_true p507
                          replace q507 := eq_true q507
                          try go_wp2_with (first | ((with_reducible refine gate_callee (f := 13) rfl ?_); refine goesL_ (some 55) rfl rfl Tryd.func13 (by kernel_rfl) rfl #[.agg #[.int .i64 ((rd_T23 l0 x9_2).f0), .int .i64 ((rd_T23 l0 x9_2).f1), .int .i64 ((rd_T23 l0 x9_2).f2), .string ((rd_T23 l0 x9_2).f3), .string ((rd_T23 l0 x9_2).f4)]] rfl (by (try simp only [List.map_toArray, List.map_cons, List.map_nil]); first | done | rfl | (simp only [List.length_drop, List.length_take]; rfl)) ?_; (with_reducible refine (ver_Check.calls ((rd_T23 l0 x9_2).f0) ((rd_T23 l0 x9_2).f1) ((rd_T23 l0 x9_2).f2) ((rd_T23 l0 x9_2).f3) ((rd_T23 l0 x9_2).f4) true _ A20.out).mono ?_); rintro e w30 ⟨rfl, hb⟩; refine ⟨_, rfl, ?_⟩; have n0_ := Aside0.mk (blk_below (g := gb506) (o := .cells #[.int .i64 t500, .int .i64 t501, .int .i64 t502, .string t503, .string t504] 23 (0, 0)) (by (with_reducible repeat (first | refine blk_drewN ?_ _ | refine blk_drew ?_ | refine blk_alloc ?_ _)); exact BK506.out) hb); have n1_ := Aside0.mk (below_step (by repeat (first | (with_reducible first | exact HB.out | apply below_alloc | apply pw_below_drewN | apply below_drew1 | refine below_set ?_ GE506.out) | exact HB.out)) hb); clear BK506; clear HB; have BK506 := n0_; have HB := n1_; clear n0_ n1_; (try clear hb); (try clear hb2); (try clear hk); (try clear hi)))
                          have n0_ := Aside0.mk (blk_drew BK506.out)
                          have n1_ := Aside0.mk (below_drew1 HB.out)
                          clear BK506
                          clear HB
                          have BK506 := n0_
                          have HB := n1_
                          clear n0_ n1_
                          have p509 : 0 ≤ (x9_2 : Int) := of_decide_eq_true (by first | (with_reducible assumption) | assumption)
                          have q509 : x9_2 < (l0.length : Int) := of_decide_eq_true (by first | (with_reducible assumption) | assumption)
                          obtain ⟨ad509, e509, hx509_0, hx509_1, hx509_2, hx509_3, hx509_4⟩ := at_T23 HR0.out x9_2 p509 q509
                          have hw509_4 := hx509_4
                          have hw509_3 := hx509_3
                          have hw509_2 := hx509_2
                          have hw509_1 := hx509_1
                          have hw509_0 := hx509_0
                          obtain rfl : ad507 = ad509 := (by injection e509)
                          replace hx509_0 := (HB.out.cell (World.block_lt_of_cell? w _ hx509_0)).trans hx509_0
                          replace hx509_1 := (HB.out.cell (World.block_lt_of_cell? w _ hx509_1)).trans hx509_1
                          replace hx509_2 := (HB.out.cell (World.block_lt_of_cell? w _ hx509_2)).trans hx509_2
                          replace hx509_3 := (HB.out.cell (World.block_lt_of_cell? w _ hx509_3)).trans hx509_3
                          replace hx509_4 := (HB.out.cell (World.block_lt_of_cell? w _ hx509_4)).trans hx509_4
                          replace p509 := eq_true p509
                          replace q509 := eq_true q509
                          refine start_ (n := 11) (S := fun w' => w'.cell? ⟨gb506, 0, none⟩ = some (.int .i64 t500) ∧ w'.cell? ⟨gb506, 1, none⟩ = some (.int .i64 t501) ∧ w'.cell? ⟨gb506, 2, none⟩ = some (.int .i64 t502) ∧ w'.cell? ⟨gb506, 3, none⟩ = some (.string t503) ∧ w'.cell? ⟨gb506, 4, none⟩ = some (.string t504) ∧ w'.cell? (ad507.add ((x9_2).toNat * 5)) = some (.int .i64 ((rd_T23 l0 x9_2).f0)) ∧ w'.cell? ⟨(ad507.add ((x9_2).toNat * 5)).block, (ad507.add ((x9_2).toNat * 5)).off + 1, none⟩ = some (.int .i64 ((rd_T23 l0 x9_2).f1)) ∧ w'.cell? ⟨(ad507.add ((x9_2).toNat * 5)).block, (ad507.add ((x9_2).toNat * 5)).off + 2, none⟩ = some (.int .i64 ((rd_T23 l0 x9_2).f2)) ∧ w'.cell? ⟨(ad507.add ((x9_2).toNat * 5)).block, (ad507.add ((x9_2).toNat * 5)).off + 3, none⟩ = some (.string ((rd_T23 l0 x9_2).f3)) ∧ w'.cell? ⟨(ad507.add ((x9_2).toNat * 5)).block, (ad507.add ((x9_2).toNat * 5)).off + 4, none⟩ = some (.string ((rd_T23 l0 x9_2).f4))) (ds := []) #[false, false, false, false, false, false, false, false, false, false, false] (by kernel_rfl) rfl rfl ⟨(blk_cell BK506.out 0).trans rfl, (blk_cell BK506.out 1).trans rfl, (blk_cell BK506.out 2).trans rfl, (blk_cell BK506.out 3).trans rfl, (blk_cell BK506.out 4).trans rfl, ((HB.out.cell (World.block_lt_of_cell? w _ hw509_0)).trans hw509_0), ((HB.out.cell (World.block_lt_of_cell? w _ hw509_1)).trans hw509_1), ((HB.out.cell (World.block_lt_of_cell? w _ hw509_2)).trans hw509_2), ((HB.out.cell (World.block_lt_of_cell? w _ hw509_3)).trans hw509_3), ((HB.out.cell (World.block_lt_of_cell? w _ hw509_4)).trans hw509_4)⟩ (fun hHeld => ?_); refine with_tabW armadalaw07_VerMax.tab14 armadalaw07_VerMax.bits14 (fun HT_ HW_ => ?_)
                          generalize w30.drew = w31 at BK506 HB hx509_0 hx509_1 hx509_2 hx509_3 hx509_4 hHeld ⊢
                          refine pure_ (i := 0) (N := some 56) (v := ?_) (a' := ?_) #[true, false, false, false, false, false, false, false, false, false, false] rfl rfl (any_of HT_.out (by kernel_rfl)) (fun _ _ _ h => h) (Or.inl ⟨by rfl, ?_⟩) ?_ ?_
                          rotate_left
                          · intro w'
                            go_simp
                            with_reducible rfl
                          rotate_left
                          · simp only [Act.put, List.setIfInBounds_toArray, List.set_cons_zero, List.set_cons_succ, i64_w, i32_w]
                            rfl
                          refine pure_ (i := 1) (N := some 57) (v := ?_) (a' := ?_) #[true, true, false, false, false, false, false, false, false, false, false] rfl rfl (any_of HT_.out (by kernel_rfl)) (fun _ _ _ h => h) (Or.inl ⟨by rfl, ?_⟩) ?_ ?_
                          rotate_left
                          · intro w'
                            go_simp
                            with_reducible rfl
                          rotate_left
                          · simp only [Act.put, List.setIfInBounds_toArray, List.set_cons_zero, List.set_cons_succ, i64_w, i32_w]
                            rfl
                          refine pure_ (i := 2) (N := some 58) (v := ?_) (a' := ?_) #[true, true, true, false, false, false, false, false, false, false, false] rfl rfl (any_of HT_.out (by kernel_rfl)) (fun _ _ _ h => h) (Or.inl ⟨by rfl, ?_⟩) ?_ ?_
                          rotate_left
                          · intro w'
                            go_simp
                            with_reducible rfl
                          rotate_left
                          · simp only [Act.put, List.setIfInBounds_toArray, List.set_cons_zero, List.set_cons_succ, i64_w, i32_w]
                            rfl
                          refine pure_ (i := 3) (N := some 59) (v := ?_) (a' := ?_) #[true, true, true, true, false, false, false, false, false, false, false] rfl rfl (any_of HT_.out (by kernel_rfl)) (fun _ _ _ h => h) (Or.inl ⟨by rfl, ?_⟩) ?_ ?_
                          rotate_left
                          · intro w'
                            go_simp
                            with_reducible rfl
                          rotate_left
                          · simp only [Act.put, List.setIfInBounds_toArray, List.set_cons_zero, List.set_cons_succ, i64_w, i32_w]
                            rfl
                          refine pure_ (i := 4) (N := some 60) (v := ?_) (a' := ?_) #[true, true, true, true, true, false, false, false, false, false, false] rfl rfl (any_of HT_.out (by kernel_rfl)) (fun _ _ _ h => h) (Or.inl ⟨by rfl, ?_⟩) ?_ ?_
                          rotate_left
                          · intro w'
                            go_simp
                            with_reducible rfl
                          rotate_left
                          · simp only [Act.put, List.setIfInBounds_toArray, List.set_cons_zero, List.set_cons_succ, i64_w, i32_w]
                            rfl
                          refine pure_ (i := 5) (N := some 61) (v := ?_) (a' := ?_) #[true, true, true, true, true, true, false, false, false, false, false] rfl rfl (any_of HT_.out (by kernel_rfl)) (fun _ _ _ h => h) (Or.inl ⟨by rfl, ?_⟩) ?_ ?_
                          rotate_left
                          · intro w'
                            go_simp
                            with_reducible rfl
                          rotate_left
                          · simp only [Act.put, List.setIfInBounds_toArray, List.set_cons_zero, List.set_cons_succ, i64_w, i32_w]
                            rfl
                          refine take_ (i := 6) (N := some 62) (v := ?_) (a' := ?_) #[true, true, true, true, true, true, true, false, false, false, false] rfl rfl (take_ofW HT_.out HW_.out (by kernel_rfl)) (fun _ _ _ h => h) (Or.inl ⟨by rfl, ?_⟩) hHeld ?_ ?_
                          rotate_left
                          · rintro w' ⟨s0, s1, s2, s3, s4, s5, s6, s7, s8, s9⟩
                            go_simp
                            with_reducible rfl
                          rotate_left
                          · simp only [Act.put, List.setIfInBounds_toArray, List.set_cons_zero, List.set_cons_succ, i64_w, i32_w]
                            rfl
                          refine take_ (i := 7) (N := some 63) (v := ?_) (a' := ?_) #[true, true, true, true, true, true, true, true, false, false, false] rfl rfl (take_ofW HT_.out HW_.out (by kernel_rfl)) (fun _ _ _ h => h) (Or.inl ⟨by rfl, ?_⟩) hHeld ?_ ?_
                          rotate_left
                          · rintro w' ⟨s0, s1, s2, s3, s4, s5, s6, s7, s8, s9⟩
                            go_simp
                            with_reducible rfl
                          rotate_left
                          · simp only [Act.put, List.setIfInBounds_toArray, List.set_cons_zero, List.set_cons_succ, i64_w, i32_w]
                            rfl
                          refine one_ (i := 8) (N := some 64) #[true, true, true, true, true, true, true, true, true, false, false] rfl rfl (one_of HT_.out (by kernel_rfl)) (by decide) (fun K hK => ?_)
                          refine goes_ Tryd.func19 (by kernel_rfl) rfl #[.agg #[.int .i64 ((rd_T23 l0 x9_2).f0), .int .i64 ((rd_T23 l0 x9_2).f1), .int .i64 ((rd_T23 l0 x9_2).f2), .string ((rd_T23 l0 x9_2).f3), .string ((rd_T23 l0 x9_2).f4)], .agg #[.int .i64 t500, .int .i64 t501, .int .i64 t502, .string t503, .string t504]] (by rfl) rfl rfl (by (try simp only [List.map_toArray, List.map_cons, List.map_nil]); first | done | rfl | (simp only [List.length_drop, List.length_take]; rfl)) ?_
                          with_reducible refine (ver_Compare.calls k2 ((rd_T23 l0 x9_2).f0) ((rd_T23 l0 x9_2).f1) ((rd_T23 l0 x9_2).f2) ((rd_T23 l0 x9_2).f3) ((rd_T23 l0 x9_2).f4) t500 t501 t502 t503 t504 t510 _ A23.out).mono ?_
                          rintro e w32 ⟨rfl, hb⟩
                          refine ⟨_, rfl, ?_⟩
                          have n0_ := Aside0.mk (blk_below (g := gb506) (o := .cells #[.int .i64 t500, .int .i64 t501, .int .i64 t502, .string t503, .string t504] 23 (0, 0)) (by (with_reducible repeat (first | refine blk_drewN ?_ _ | refine blk_drew ?_ | refine blk_alloc ?_ _)); exact BK506.out) hb)
                          have n1_ := Aside0.mk (below_step (by repeat (first | (with_reducible first | exact HB.out | apply below_alloc | apply pw_below_drewN | apply below_drew1 | refine below_set ?_ GE506.out) | exact HB.out)) hb)
                          clear BK506
                          clear HB
                          have BK506 := n0_
                          have HB := n1_
                          clear n0_ n1_
                          (try clear hb)
                          (try clear hb2)
                          (try clear hk)
                          (try clear hi)
                          refine hK.out _ _ ⟨(blk_cell BK506.out 0).trans rfl, (blk_cell BK506.out 1).trans rfl, (blk_cell BK506.out 2).trans rfl, (blk_cell BK506.out 3).trans rfl, (blk_cell BK506.out 4).trans rfl, ((HB.out.cell (World.block_lt_of_cell? w _ hw509_0)).trans hw509_0), ((HB.out.cell (World.block_lt_of_cell? w _ hw509_1)).trans hw509_1), ((HB.out.cell (World.block_lt_of_cell? w _ hw509_2)).trans hw509_2), ((HB.out.cell (World.block_lt_of_cell? w _ hw509_3)).trans hw509_3), ((HB.out.cell (World.block_lt_of_cell? w _ hw509_4)).trans hw509_4)⟩ (fun hHeld => ?_)
                          clear hK K
                          refine norm_ (a' := ?_) ?_ ?_
                          rotate_left
                          · show Act.put _ (some 64) _ = _
                            simp only [Act.put, List.setIfInBounds_toArray, List.set_cons_zero, List.set_cons_succ, i64_w, i32_w]
                            rfl
                          refine pure_ (i := 9) (N := some 65) (v := ?_) (a' := ?_) #[true, true, true, true, true, true, true, true, true, true, false] rfl rfl (any_of HT_.out (by kernel_rfl)) (fun _ _ _ h => h) (Or.inl ⟨by rfl, ?_⟩) ?_ ?_
                          rotate_left
                          · intro w'
                            go_simp
                            with_reducible rfl
                          rotate_left
                          · simp only [Act.put, List.setIfInBounds_toArray, List.set_cons_zero, List.set_cons_succ, i64_w, i32_w]
                            rfl
                          refine pure_ (i := 10) (N := some 66) (v := ?_) (a' := ?_) #[true, true, true, true, true, true, true, true, true, true, true] rfl rfl (any_of HT_.out (by kernel_rfl)) (fun _ _ _ h => h) (Or.inl ⟨by rfl, ?_⟩) ?_ ?_
                          rotate_left
                          · intro w'
                            go_simp
                            with_reducible rfl
                          rotate_left
                          · simp only [Act.put, List.setIfInBounds_toArray, List.set_cons_zero, List.set_cons_succ, i64_w, i32_w]
                            rfl
                          refine done_ (done_of HT_.out (by kernel_rfl)) ?_
                          try go_wp2
                          have n0_ := Aside0.mk (blk_drew BK506.out)
                          have n1_ := Aside0.mk (below_drew1 HB.out)
                          clear BK506
                          clear HB
                          have BK506 := n0_
                          have HB := n1_
                          clear n0_ n1_
                          have p511 : 0 ≤ (x9_2 : Int) := of_decide_eq_true (by first | (with_reducible assumption) | assumption)
                          have q511 : x9_2 < (l0.length : Int) := of_decide_eq_true (by first | (with_reducible assumption) | assumption)
                          obtain ⟨ad511, e511, hx511_0, hx511_1, hx511_2, hx511_3, hx511_4⟩ := at_T23 HR0.out x9_2 p511 q511
                          have hw511_4 := hx511_4
                          have hw511_3 := hx511_3
                          have hw511_2 := hx511_2
                          have hw511_1 := hx511_1
                          have hw511_0 := hx511_0
                          obtain rfl : ad507 = ad511 := (by injection e511)
                          replace hx511_0 := (HB.out.cell (World.block_lt_of_cell? w _ hx511_0)).trans hx511_0
                          replace hx511_1 := (HB.out.cell (World.block_lt_of_cell? w _ hx511_1)).trans hx511_1
                          replace hx511_2 := (HB.out.cell (World.block_lt_of_cell? w _ hx511_2)).trans hx511_2
                          replace hx511_3 := (HB.out.cell (World.block_lt_of_cell? w _ hx511_3)).trans hx511_3
                          replace hx511_4 := (HB.out.cell (World.block_lt_of_cell? w _ hx511_4)).trans hx511_4
                          replace p511 := eq_true p511
                          replace q511 := eq_true q511
                          refine start_ (n := 10) (S := fun w' => w'.cell? ⟨gb506, 0, none⟩ = some (.int .i64 t500) ∧ w'.cell? ⟨gb506, 1, none⟩ = some (.int .i64 t501) ∧ w'.cell? ⟨gb506, 2, none⟩ = some (.int .i64 t502) ∧ w'.cell? ⟨gb506, 3, none⟩ = some (.string t503) ∧ w'.cell? ⟨gb506, 4, none⟩ = some (.string t504) ∧ w'.cell? (ad507.add ((x9_2).toNat * 5)) = some (.int .i64 ((rd_T23 l0 x9_2).f0)) ∧ w'.cell? ⟨(ad507.add ((x9_2).toNat * 5)).block, (ad507.add ((x9_2).toNat * 5)).off + 1, none⟩ = some (.int .i64 ((rd_T23 l0 x9_2).f1)) ∧ w'.cell? ⟨(ad507.add ((x9_2).toNat * 5)).block, (ad507.add ((x9_2).toNat * 5)).off + 2, none⟩ = some (.int .i64 ((rd_T23 l0 x9_2).f2)) ∧ w'.cell? ⟨(ad507.add ((x9_2).toNat * 5)).block, (ad507.add ((x9_2).toNat * 5)).off + 3, none⟩ = some (.string ((rd_T23 l0 x9_2).f3)) ∧ w'.cell? ⟨(ad507.add ((x9_2).toNat * 5)).block, (ad507.add ((x9_2).toNat * 5)).off + 4, none⟩ = some (.string ((rd_T23 l0 x9_2).f4))) (ds := []) #[false, false, false, false, false, false, false, false, false, false] (by kernel_rfl) rfl rfl ⟨(blk_cell BK506.out 0).trans rfl, (blk_cell BK506.out 1).trans rfl, (blk_cell BK506.out 2).trans rfl, (blk_cell BK506.out 3).trans rfl, (blk_cell BK506.out 4).trans rfl, ((HB.out.cell (World.block_lt_of_cell? w _ hw511_0)).trans hw511_0), ((HB.out.cell (World.block_lt_of_cell? w _ hw511_1)).trans hw511_1), ((HB.out.cell (World.block_lt_of_cell? w _ hw511_2)).trans hw511_2), ((HB.out.cell (World.block_lt_of_cell? w _ hw511_3)).trans hw511_3), ((HB.out.cell (World.block_lt_of_cell? w _ hw511_4)).trans hw511_4)⟩ (fun hHeld => ?_); refine with_tabW armadalaw07_VerMax.tab16 armadalaw07_VerMax.bits16 (fun HT_ HW_ => ?_)
                          generalize w32.drew = w33 at BK506 HB hx511_0 hx511_1 hx511_2 hx511_3 hx511_4 hHeld ⊢
                          refine pure_ (i := 0) (N := some 67) (v := ?_) (a' := ?_) #[true, false, false, false, false, false, false, false, false, false] rfl rfl (any_of HT_.out (by kernel_rfl)) (fun _ _ _ h => h) (Or.inl ⟨by rfl, ?_⟩) ?_ ?_
                          rotate_left
                          · intro w'
                            go_simp
                            with_reducible rfl
                          rotate_left
                          · simp only [Act.put, List.setIfInBounds_toArray, List.set_cons_zero, List.set_cons_succ, i64_w, i32_w]
                            rfl
                          refine pure_ (i := 1) (N := some 68) (v := ?_) (a' := ?_) #[true, true, false, false, false, false, false, false, false, false] rfl rfl (any_of HT_.out (by kernel_rfl)) (fun _ _ _ h => h) (Or.inl ⟨by rfl, ?_⟩) ?_ ?_
                          rotate_left
                          · intro w'
                            go_simp
                            with_reducible rfl
                          rotate_left
                          · simp only [Act.put, List.setIfInBounds_toArray, List.set_cons_zero, List.set_cons_succ, i64_w, i32_w]
                            rfl
                          refine pure_ (i := 2) (N := some 69) (v := ?_) (a' := ?_) #[true, true, true, false, false, false, false, false, false, false] rfl rfl (any_of HT_.out (by kernel_rfl)) (fun _ _ _ h => h) (Or.inl ⟨by rfl, ?_⟩) ?_ ?_
                          rotate_left
                          · intro w'
                            go_simp
                            with_reducible rfl
                          rotate_left
                          · simp only [Act.put, List.setIfInBounds_toArray, List.set_cons_zero, List.set_cons_succ, i64_w, i32_w]
                            rfl
                          refine pure_ (i := 3) (N := some 70) (v := ?_) (a' := ?_) #[true, true, true, true, false, false, false, false, false, false] rfl rfl (any_of HT_.out (by kernel_rfl)) (fun _ _ _ h => h) (Or.inl ⟨by rfl, ?_⟩) ?_ ?_
                          rotate_left
                          · intro w'
                            go_simp
                            with_reducible rfl
                          rotate_left
                          · simp only [Act.put, List.setIfInBounds_toArray, List.set_cons_zero, List.set_cons_succ, i64_w, i32_w]
                            rfl
                          refine pure_ (i := 4) (N := some 71) (v := ?_) (a' := ?_) #[true, true, true, true, true, false, false, false, false, false] rfl rfl (any_of HT_.out (by kernel_rfl)) (fun _ _ _ h => h) (Or.inl ⟨by rfl, ?_⟩) ?_ ?_
                          rotate_left
                          · intro w'
                            go_simp
                            with_reducible rfl
                          rotate_left
                          · simp only [Act.put, List.setIfInBounds_toArray, List.set_cons_zero, List.set_cons_succ, i64_w, i32_w]
                            rfl
                          refine take_ (i := 5) (N := some 72) (v := ?_) (a' := ?_) #[true, true, true, true, true, true, false, false, false, false] rfl rfl (take_ofW HT_.out HW_.out (by kernel_rfl)) (fun _ _ _ h => h) (Or.inl ⟨by rfl, ?_⟩) hHeld ?_ ?_
                          rotate_left
                          · rintro w' ⟨s0, s1, s2, s3, s4, s5, s6, s7, s8, s9⟩
                            go_simp
                            with_reducible rfl
                          rotate_left
                          · simp only [Act.put, List.setIfInBounds_toArray, List.set_cons_zero, List.set_cons_succ, i64_w, i32_w]
                            rfl
                          refine take_ (i := 6) (N := some 73) (v := ?_) (a' := ?_) #[true, true, true, true, true, true, true, false, false, false] rfl rfl (take_ofW HT_.out HW_.out (by kernel_rfl)) (fun _ _ _ h => h) (Or.inl ⟨by rfl, ?_⟩) hHeld ?_ ?_
                          rotate_left
                          · rintro w' ⟨s0, s1, s2, s3, s4, s5, s6, s7, s8, s9⟩
                            go_simp
                            with_reducible rfl
                          rotate_left
                          · simp only [Act.put, List.setIfInBounds_toArray, List.set_cons_zero, List.set_cons_succ, i64_w, i32_w]
                            rfl
                          refine pure_ (i := 7) (N := some 74) (v := ?_) (a' := ?_) #[true, true, true, true, true, true, true, true, false, false] rfl rfl (any_of HT_.out (by kernel_rfl)) (fun _ _ _ h => h) (Or.inl ⟨by rfl, ?_⟩) ?_ ?_
                          rotate_left
                          · intro w'
                            go_simp
                            with_reducible rfl
                          rotate_left
                          · simp only [Act.put, List.setIfInBounds_toArray, List.set_cons_zero, List.set_cons_succ, i64_w, i32_w]
                            rfl
                          refine pure_ (i := 8) (N := some 75) (v := ?_) (a' := ?_) #[true, true, true, true, true, true, true, true, true, false] rfl rfl (any_of HT_.out (by kernel_rfl)) (fun _ _ _ h => h) (Or.inl ⟨by rfl, ?_⟩) ?_ ?_
                          rotate_left
                          · intro w'
                            go_simp
                            with_reducible rfl
                          rotate_left
                          · simp only [Act.put, List.setIfInBounds_toArray, List.set_cons_zero, List.set_cons_succ, i64_w, i32_w]
                            rfl
                          refine pure_ (i := 9) (N := some 8) (v := ?_) (a' := ?_) #[true, true, true, true, true, true, true, true, true, true] rfl rfl (any_of HT_.out (by kernel_rfl)) (fun _ _ _ h => h) (Or.inl ⟨by rfl, ?_⟩) ?_ ?_
                          rotate_left
                          · intro w'
                            go_simp
                            with_reducible rfl
                          rotate_left
                          · simp only [Act.put, List.setIfInBounds_toArray, List.set_cons_zero, List.set_cons_succ, i64_w, i32_w]
                            rfl
                          refine done_ (done_of HT_.out (by kernel_rfl)) ?_
                          try go_wp2
                          go_roundg k2
                          case measure => have := HK1.out; have := HK2.out; omega
                          case rel => exact ⟨((((rd_T23 l0 x9_2).f0) == t500 && (((rd_T23 l0 x9_2).f1) == t501 && (((rd_T23 l0 x9_2).f2) == t502 && ((((rd_T23 l0 x9_2).f3).toList) == t503.toList && ((((rd_T23 l0 x9_2).f4).toList) == t504.toList)))))), (wrap64 (x9_2 + 1)), (by first | rfl | (simp; done) | (simp [*]; done)), (by first | rfl | (simp; done) | (simp [*]; done)), H', ⟨by have := HK1.out; have := HK2.out; omega⟩, ⟨by (with_reducible repeat (first | refine blk_drewN ?_ _ | refine blk_drew ?_ | refine blk_alloc ?_ _)); exact BK506.out⟩, ⟨by repeat (first | (with_reducible first | exact HB.out | apply below_alloc | apply pw_below_drewN | apply below_drew1 | refine below_set ?_ GE506.out) | exact HB.out)⟩⟩
                    · replace c22 := Bool.eq_false_iff.mpr c22
                      subst c22
                      have H1 : (some false) = some true := by rw [if_neg (show ¬ (false = true) by decide)] at H; exact H
                      clear H
                      have H := H1
                      clear H1
                      exact absurd H (by simp)
                  · replace c21 := Bool.eq_false_iff.mpr c21
                    subst c21
                    have H1 : (armadalaw07_VerMax.l1 k2 l0 a1 t505 x8_2 (wrap64 (x9_2 + 1)) t500 t501 t502 t503 t504) = some true := by rw [if_neg (show ¬ (false = true) by decide)] at H; exact H
                    clear H
                    have H := H1
                    clear H1
                    have H' := Aside0.mk H
                    clear H
                    have p507 : 0 ≤ (x9_2 : Int) := of_decide_eq_true (by first | (with_reducible assumption) | assumption)
                    have q507 : x9_2 < (l0.length : Int) := of_decide_eq_true (by first | (with_reducible assumption) | assumption)
                    obtain ⟨ad507, e507, hx507_0, hx507_1, hx507_2, hx507_3, hx507_4⟩ := at_T23 HR0.out x9_2 p507 q507
                    cases e507
                    replace hx507_0 := (HB.out.cell (World.block_lt_of_cell? w _ hx507_0)).trans hx507_0
                    replace hx507_1 := (HB.out.cell (World.block_lt_of_cell? w _ hx507_1)).trans hx507_1
                    replace hx507_2 := (HB.out.cell (World.block_lt_of_cell? w _ hx507_2)).trans hx507_2
                    replace hx507_3 := (HB.out.cell (World.block_lt_of_cell? w _ hx507_3)).trans hx507_3
                    replace hx507_4 := (HB.out.cell (World.block_lt_of_cell? w _ hx507_4)).trans hx507_4
                    replace p507 := eq_true p507
                    replace q507 := eq_true q507
                    go_wp2_with (first | ((with_reducible refine gate_callee (f := 13) rfl ?_); refine goesL_ (some 55) rfl rfl Tryd.func13 (by kernel_rfl) rfl #[.agg #[.int .i64 ((rd_T23 l0 x9_2).f0), .int .i64 ((rd_T23 l0 x9_2).f1), .int .i64 ((rd_T23 l0 x9_2).f2), .string ((rd_T23 l0 x9_2).f3), .string ((rd_T23 l0 x9_2).f4)]] rfl (by (try simp only [List.map_toArray, List.map_cons, List.map_nil]); first | done | rfl | (simp only [List.length_drop, List.length_take]; rfl)) ?_; (with_reducible refine (ver_Check.calls ((rd_T23 l0 x9_2).f0) ((rd_T23 l0 x9_2).f1) ((rd_T23 l0 x9_2).f2) ((rd_T23 l0 x9_2).f3) ((rd_T23 l0 x9_2).f4) false _ A20.out).mono ?_); rintro e w34 ⟨rfl, hb⟩; refine ⟨_, rfl, ?_⟩; have n0_ := Aside0.mk (blk_below (g := gb506) (o := .cells #[.int .i64 t500, .int .i64 t501, .int .i64 t502, .string t503, .string t504] 23 (0, 0)) (by (with_reducible repeat (first | refine blk_drewN ?_ _ | refine blk_drew ?_ | refine blk_alloc ?_ _)); exact BK506.out) hb); have n1_ := Aside0.mk (below_step (by repeat (first | (with_reducible first | exact HB.out | apply below_alloc | apply pw_below_drewN | apply below_drew1 | refine below_set ?_ GE506.out) | exact HB.out)) hb); clear BK506; clear HB; have BK506 := n0_; have HB := n1_; clear n0_ n1_; (try clear hb); (try clear hb2); (try clear hk); (try clear hi)))
                    go_roundg k2
                    case measure => have := HK1.out; have := HK2.out; omega
                    case rel => exact ⟨(x8_2), (wrap64 (x9_2 + 1)), (by first | rfl | (simp; done) | (simp [*]; done)), (by first | rfl | (simp; done) | (simp [*]; done)), H', ⟨by have := HK1.out; have := HK2.out; omega⟩, ⟨by (with_reducible repeat (first | refine blk_drewN ?_ _ | refine blk_drew ?_ | refine blk_alloc ?_ _)); exact BK506.out⟩, ⟨by repeat (first | (with_reducible first | exact HB.out | apply below_alloc | apply pw_below_drewN | apply below_drew1 | refine below_set ?_ GE506.out) | exact HB.out)⟩⟩
                · rw [if_neg c19] at H
                  exact absurd H (by simp)
              · rw [if_neg c18] at H
                have c18b0 : decide (x9_2 < (l0.length : Int)) = false := decide_eq_false c18
                clear c18
                have HC35 := Aside0.mk H
                clear H
                go_upto_region 17 with (fail)
                go_cut [88] (fun v88 wc => ∃ (kq : Nat) (x88_34 : Bool), v88 = .bool x88_34 ∧ Aside0 (armadalaw07_VerMax.j2 kq l0 a1 t505 x8_2 x88_34 t500 t501 t502 t503 t504 = some true) ∧ Aside0 (kq ≤ k2) ∧ Aside0 (wc.heap[gb506]? = some (.cells #[.int .i64 t500, .int .i64 t501, .int .i64 t502, .string t503, .string t504] 23 (0, 0))) ∧ Aside0 (Below w.heap.size w wc))
                case first =>
                  have H := HC35.out
                  clear HC35
                  by_cases c36 : (t505 != x8_2) = true
                  · rw [if_pos c36] at H
                    have c36b0 : (t505 != x8_2) = true := c36
                    (try (have c36b1 : decide (t505 = x8_2) = false := by simpa using c36))
                    (try (have c36b2 : (t505 == x8_2) = false := by simpa using c36))
                    (try (have c36b3 : ¬ (t505 = x8_2) := by simpa using c36))
                    clear c36
                    (first | rw [c36b0] | (simp only [i64_w, i32_w]; rw [c36b0]) | skip)
                    have H' := Aside0.mk H
                    clear H
                    go_wp2
                    go_meet
                    case rel => exact ⟨_, (true), (by first | rfl | (simp; done) | (simp [*]; done)), H', ⟨by have := HK1.out; have := HK2.out; first | omega | exact Nat.le_refl _⟩, ⟨by (with_reducible repeat (first | refine blk_drewN ?_ _ | refine blk_drew ?_ | refine blk_alloc ?_ _)); exact BK506.out⟩, ⟨by repeat (first | (with_reducible first | exact HB.out | apply below_alloc | apply pw_below_drewN | apply below_drew1 | refine below_set ?_ GE506.out) | exact HB.out)⟩⟩
                  · rw [if_neg c36] at H
                    have c36b0 : (t505 != x8_2) = false := by simpa using c36
                    (try (have c36b1 : decide (t505 = x8_2) = true := by simpa using c36))
                    (try (have c36b2 : (t505 == x8_2) = true := by simpa using c36))
                    clear c36
                    (first | rw [c36b0] | (simp only [i64_w, i32_w]; rw [c36b0]) | skip)
                    by_cases c37 : a1 < 0
                    · rw [if_pos c37] at H
                      have c37b0 : decide (a1 < 0) = true := decide_eq_true c37
                      clear c37
                      have H' := Aside0.mk H
                      clear H
                      go_wp2
                      go_meet
                      case rel => exact ⟨_, (true), (by first | rfl | (simp; done) | (simp [*]; done)), H', ⟨by have := HK1.out; have := HK2.out; first | omega | exact Nat.le_refl _⟩, ⟨by (with_reducible repeat (first | refine blk_drewN ?_ _ | refine blk_drew ?_ | refine blk_alloc ?_ _)); exact BK506.out⟩, ⟨by repeat (first | (with_reducible first | exact HB.out | apply below_alloc | apply pw_below_drewN | apply below_drew1 | refine below_set ?_ GE506.out) | exact HB.out)⟩⟩
                    · rw [if_neg c37] at H
                      have c37b0 : decide (a1 < 0) = false := decide_eq_false c37
                      clear c37
                      have H' := Aside0.mk H
                      clear H
                      go_wp2
                      go_meet
                      case rel => exact ⟨_, (decide (a1 > (l0.length : Int))), (by first | rfl | (simp; done) | (simp [*]; done)), H', ⟨by have := HK1.out; have := HK2.out; first | omega | exact Nat.le_refl _⟩, ⟨by (with_reducible repeat (first | refine blk_drewN ?_ _ | refine blk_drew ?_ | refine blk_alloc ?_ _)); exact BK506.out⟩, ⟨by repeat (first | (with_reducible first | exact HB.out | apply below_alloc | apply pw_below_drewN | apply below_drew1 | refine below_set ?_ GE506.out) | exact HB.out)⟩⟩
                case rest =>
                  clear HC35
                  try clear c1
                  try clear c2
                  try clear p2
                  try clear c3
                  try clear p5
                  try clear q5
                  try clear hx5
                  try clear p6
                  try clear c13
                  try clear c18
                  try clear c18b0
                  try clear c19
                  try clear c19b0
                  try clear c21
                  try clear c22
                  try clear c24
                  try clear c24b0
                  try clear c25
                  try clear c36
                  try clear c36b0
                  try clear c36b1
                  try clear c36b2
                  try clear c37
                  try clear c37b0
                  try clear hx507_0
                  try clear hx507_1
                  try clear hx507_2
                  try clear hx507_3
                  try clear hx507_4
                  try clear hx509_0
                  try clear hx509_1
                  try clear hx509_2
                  try clear hx509_3
                  try clear hx509_4
                  try clear hx511_0
                  try clear hx511_1
                  try clear hx511_2
                  try clear hx511_3
                  try clear hx511_4
                  try clear p507
                  try clear p509
                  try clear p511
                  try clear q507
                  try clear q509
                  try clear q511
                  obtain ⟨kq, x88_34, rfl, HA, HJ34, BK506, HB⟩ := hcut
                  cases kq with
                  | zero => exact absurd HA.out (by simp [armadalaw07_VerMax.j2])
                  | succ kj34 =>
                    have H := HA.out
                    clear HA
                    simp only [armadalaw07_VerMax.j2] at H
                    by_cases c38 : x88_34 = true
                    · subst c38
                      have H1 : (if (t505 == x8_2) = true then ((armadalaw07_live.f kj34).bind fun t512 => (some t512)) else (some false)) = some true := by rw [if_pos rfl] at H; exact H
                      clear H
                      have H := H1
                      clear H1
                      by_cases c39 : (t505 == x8_2) = true
                      · rw [if_pos c39] at H
                        have c39b0 : (t505 == x8_2) = true := c39
                        (try (have c39b1 : decide (t505 = x8_2) = true := by simpa using c39))
                        (try (have c39b2 : (t505 == x8_2) = true := by simpa using c39))
                        clear c39
                        replace H := Option.bind_eq_some_iff.mp H
                        obtain ⟨t512, A400, H⟩ := H
                        replace H : (some t512) = some true := H
                        have A40 := Aside0.mk A400
                        clear A400
                        obtain rfl := Option.some.inj H
                        go_wp2_with (first | (go_at_call 10; (with_reducible refine (armadalaw07_live.calls kj34  true _ A40.out (LW0 := LW.out.below (by repeat (first | (with_reducible first | exact HB.out | apply below_alloc | apply pw_below_drewN | apply below_drew1 | refine below_set ?_ GE506.out) | exact HB.out)))).mono ?_); rintro e w41 ⟨rfl, hb⟩; have n0_ := Aside0.mk (blk_below (g := gb506) (o := .cells #[.int .i64 t500, .int .i64 t501, .int .i64 t502, .string t503, .string t504] 23 (0, 0)) (by (with_reducible repeat (first | refine blk_drewN ?_ _ | refine blk_drew ?_ | refine blk_alloc ?_ _)); exact BK506.out) hb); have n1_ := Aside0.mk (below_step (by repeat (first | (with_reducible first | exact HB.out | apply below_alloc | apply pw_below_drewN | apply below_drew1 | refine below_set ?_ GE506.out) | exact HB.out)) hb); clear BK506; clear HB; have BK506 := n0_; have HB := n1_; clear n0_ n1_; (try clear hb); (try clear hb2); (try clear hk); (try clear hi)))
                        go_ret
                        exact ⟨by first | rfl | (simp [errW_none, errW_some] <;> rfl) | (simp [*, errW_none, errW_some] <;> rfl), by repeat (first | (with_reducible first | exact HB.out | apply below_alloc | apply pw_below_drewN | apply below_drew1 | refine below_set ?_ GE506.out) | exact HB.out)⟩
                      · rw [if_neg c39] at H
                        have c39b0 : (t505 == x8_2) = false := by simpa using c39
                        (try (have c39b1 : decide (t505 = x8_2) = false := by simpa using c39))
                        (try (have c39b2 : (t505 == x8_2) = false := by simpa using c39))
                        (try (have c39b3 : ¬ (t505 = x8_2) := by simpa using c39))
                        clear c39
                        exact absurd H (by simp)
                    · replace c38 := Bool.eq_false_iff.mpr c38
                      subst c38
                      have H1 : ((some (([] : List (S23)) : List (S23))).bind fun y513 => (if 0 ≤ a1 then (if a1 ≤ (l0.length : Int) then ((some (l0.drop (a1 : Int).toNat : List (S23))).bind fun y516 => (if y513.length + y516.length < 2513169434916 then ((some (y513 ++ y516 : List (S23))).bind fun y520 => ((some (l0.take (a1 : Int).toNat : List (S23))).bind fun y523 => (if y520.length + y523.length < 2513169434916 then ((ver_Max.f kj34 (y520 ++ y523)).bind fun bt530 => (if (bt530.2.2.2.2.2 == t505) = true then ((ver_Compare.f kj34 bt530.1 bt530.2.1 bt530.2.2.1 bt530.2.2.2.1 bt530.2.2.2.2.1 t500 t501 t502 t503 t504).bind fun t537 => (if t537 = 0 then ((armadalaw07_live.f kj34).bind fun t538 => (some t538)) else (some false))) else (some false))) else (none)))) else (none))) else (none)) else (none))) = some true := by rw [if_neg (show ¬ (false = true) by decide)] at H; exact H
                      clear H
                      have H := H1
                      clear H1
                      obtain ⟨y513, hy513⟩ : ∃ y_ : List (S23), y_ = (([] : List (S23))) := ⟨_, rfl⟩
                      replace H : (if 0 ≤ a1 then (if a1 ≤ (l0.length : Int) then ((some (l0.drop (a1 : Int).toNat : List (S23))).bind fun y516 => (if y513.length + y516.length < 2513169434916 then ((some (y513 ++ y516 : List (S23))).bind fun y520 => ((some (l0.take (a1 : Int).toNat : List (S23))).bind fun y523 => (if y520.length + y523.length < 2513169434916 then ((ver_Max.f kj34 (y520 ++ y523)).bind fun bt530 => (if (bt530.2.2.2.2.2 == t505) = true then ((ver_Compare.f kj34 bt530.1 bt530.2.1 bt530.2.2.1 bt530.2.2.2.1 bt530.2.2.2.2.1 t500 t501 t502 t503 t504).bind fun t537 => (if t537 = 0 then ((armadalaw07_live.f kj34).bind fun t538 => (some t538)) else (some false))) else (some false))) else (none)))) else (none))) else (none)) else (none)) = some true := by first | (rw [hy513]; with_reducible exact H) | (have H2_ := (Option.bind_some _ _).symm.trans H; rw [hy513]; with_reducible exact H2_) | (have H2_ := (Option.bind_some _ _).symm.trans H; with_reducible exact H2_) | with_reducible exact H | (rw [hy513]; exact H) | exact H
                      have Ny513 := Aside0.mk hy513
                      clear hy513
                      by_cases c42 : 0 ≤ a1
                      · rw [if_pos c42] at H
                        have c42b0 := eq_true c42
                        have c42b1 : decide (0 ≤ a1) = true := decide_eq_true c42
                        clear c42
                        by_cases c43 : a1 ≤ (l0.length : Int)
                        · rw [if_pos c43] at H
                          have c43b0 := eq_true c43
                          have c43b1 : decide (a1 ≤ (l0.length : Int)) = true := decide_eq_true c43
                          clear c43
                          obtain ⟨y516, hy516⟩ : ∃ y_ : List (S23), y_ = (l0.drop (a1 : Int).toNat) := ⟨_, rfl⟩
                          replace H : (if y513.length + y516.length < 2513169434916 then ((some (y513 ++ y516 : List (S23))).bind fun y520 => ((some (l0.take (a1 : Int).toNat : List (S23))).bind fun y523 => (if y520.length + y523.length < 2513169434916 then ((ver_Max.f kj34 (y520 ++ y523)).bind fun bt530 => (if (bt530.2.2.2.2.2 == t505) = true then ((ver_Compare.f kj34 bt530.1 bt530.2.1 bt530.2.2.1 bt530.2.2.2.1 bt530.2.2.2.2.1 t500 t501 t502 t503 t504).bind fun t537 => (if t537 = 0 then ((armadalaw07_live.f kj34).bind fun t538 => (some t538)) else (some false))) else (some false))) else (none)))) else (none)) = some true := by first | (rw [hy516]; with_reducible exact H) | (have H2_ := (Option.bind_some _ _).symm.trans H; rw [hy516]; with_reducible exact H2_) | (have H2_ := (Option.bind_some _ _).symm.trans H; with_reducible exact H2_) | with_reducible exact H | (rw [hy516]; exact H) | exact H
                          have Ny516 := Aside0.mk hy516
                          clear hy516
                          by_cases c44 : y513.length + y516.length < 2513169434916
                          · rw [if_pos c44] at H
                            have LMc44 := Aside0.mk c44
                            clear c44
                            obtain ⟨y520, hy520⟩ : ∃ y_ : List (S23), y_ = (y513 ++ y516) := ⟨_, rfl⟩
                            replace H : ((some (l0.take (a1 : Int).toNat : List (S23))).bind fun y523 => (if y520.length + y523.length < 2513169434916 then ((ver_Max.f kj34 (y520 ++ y523)).bind fun bt530 => (if (bt530.2.2.2.2.2 == t505) = true then ((ver_Compare.f kj34 bt530.1 bt530.2.1 bt530.2.2.1 bt530.2.2.2.1 bt530.2.2.2.2.1 t500 t501 t502 t503 t504).bind fun t537 => (if t537 = 0 then ((armadalaw07_live.f kj34).bind fun t538 => (some t538)) else (some false))) else (some false))) else (none))) = some true := by first | (rw [hy520]; with_reducible exact H) | (have H2_ := (Option.bind_some _ _).symm.trans H; rw [hy520]; with_reducible exact H2_) | (have H2_ := (Option.bind_some _ _).symm.trans H; with_reducible exact H2_) | with_reducible exact H | (rw [hy520]; exact H) | exact H
                            have Ny520 := Aside0.mk hy520
                            clear hy520
                            have c45b0 := eq_true (of_decide_eq_true (by first | (with_reducible assumption) | assumption) : 0 ≤ a1)
                            have c46b0 := eq_true (of_decide_eq_true (by first | (with_reducible assumption) | assumption) : a1 ≤ (l0.length : Int))
                            obtain ⟨y523, hy523⟩ : ∃ y_ : List (S23), y_ = (l0.take (a1 : Int).toNat) := ⟨_, rfl⟩
                            replace H : (if y520.length + y523.length < 2513169434916 then ((ver_Max.f kj34 (y520 ++ y523)).bind fun bt530 => (if (bt530.2.2.2.2.2 == t505) = true then ((ver_Compare.f kj34 bt530.1 bt530.2.1 bt530.2.2.1 bt530.2.2.2.1 bt530.2.2.2.2.1 t500 t501 t502 t503 t504).bind fun t537 => (if t537 = 0 then ((armadalaw07_live.f kj34).bind fun t538 => (some t538)) else (some false))) else (some false))) else (none)) = some true := by first | (rw [hy523]; with_reducible exact H) | (have H2_ := (Option.bind_some _ _).symm.trans H; rw [hy523]; with_reducible exact H2_) | (have H2_ := (Option.bind_some _ _).symm.trans H; with_reducible exact H2_) | with_reducible exact H | (rw [hy523]; exact H) | exact H
                            have Ny523 := Aside0.mk hy523
                            clear hy523
                            by_cases c47 : y520.length + y523.length < 2513169434916
                            · rw [if_pos c47] at H
                              have LMc47 := Aside0.mk c47
                              clear c47
                              obtain ⟨y527, hy527⟩ : ∃ y_ : List (S23), y_ = (y520 ++ y523) := ⟨_, rfl⟩
                              replace H : ((ver_Max.f kj34 y527).bind fun bt530 => (if (bt530.2.2.2.2.2 == t505) = true then ((ver_Compare.f kj34 bt530.1 bt530.2.1 bt530.2.2.1 bt530.2.2.2.1 bt530.2.2.2.2.1 t500 t501 t502 t503 t504).bind fun t537 => (if t537 = 0 then ((armadalaw07_live.f kj34).bind fun t538 => (some t538)) else (some false))) else (some false))) = some true := by first | (rw [hy527]; with_reducible exact H) | (have H2_ := (Option.bind_some _ _).symm.trans H; rw [hy527]; with_reducible exact H2_) | (have H2_ := (Option.bind_some _ _).symm.trans H; with_reducible exact H2_) | with_reducible exact H | (rw [hy527]; exact H) | exact H
                              have Ny527 := Aside0.mk hy527
                              clear hy527
                              replace H := Option.bind_eq_some_iff.mp H
                              obtain ⟨⟨t530, t531, t532, t533, t534, t535⟩, A480, H⟩ := H
                              replace H : (if (t535 == t505) = true then ((ver_Compare.f kj34 t530 t531 t532 t533 t534 t500 t501 t502 t503 t504).bind fun t537 => (if t537 = 0 then ((armadalaw07_live.f kj34).bind fun t538 => (some t538)) else (some false))) else (some false)) = some true := H
                              have A48 := Aside0.mk A480
                              clear A480
                              by_cases c49 : (t535 == t505) = true
                              · rw [if_pos c49] at H
                                have c49b0 : (t535 == t505) = true := c49
                                (try (have c49b1 : decide (t535 = t505) = true := by simpa using c49))
                                (try (have c49b2 : (t535 == t505) = true := by simpa using c49))
                                clear c49
                                replace H := Option.bind_eq_some_iff.mp H
                                obtain ⟨t537, A500, H⟩ := H
                                replace H : (if t537 = 0 then ((armadalaw07_live.f kj34).bind fun t538 => (some t538)) else (some false)) = some true := H
                                have A50 := Aside0.mk A500
                                clear A500
                                by_cases c51 : t537 = 0
                                · rw [if_pos c51] at H
                                  have c51b0 : (t537 == 0) = true := beq_iff_eq.mpr c51
                                  have c51b1 : (t537 != 0) = false := bne_eq_false_iff_eq.mpr c51
                                  clear c51
                                  replace H := Option.bind_eq_some_iff.mp H
                                  obtain ⟨t538, A520, H⟩ := H
                                  replace H : (some t538) = some true := H
                                  have A52 := Aside0.mk A520
                                  clear A520
                                  obtain rfl := Option.some.inj H
                                  go_wp2_with (first | ((with_reducible refine gate_dst (N := 95) rfl ?_); (try (refine gate_guard (by rfl) ?_; dsimp only)); refine Kd.R_lit k23 _ 23 ?hg (N := 95) ?hd (xs := ([] : List (S23))) (inner := []) (ok := fun _ => True) (okp := fun _ => True) ?hr ?hp (fun _ hk => hk) trivial (Below.refl _ _) (Nat.le_refl _) (by simp) ?_; (case hd => rfl); (case hg => rfl); (case hr => first | (go_simp; done) | (go_simp; rfl)); (case hp => exact (Reps.none _ _)); intro v514 w53 ho54 hb hg_ hnew_; clear hg_ hnew_; (first | rw [← Ny513.out] at ho54 | (simp only [Int.reduceToNat] at ho54; rw [← Ny513.out] at ho54)); have n0_ := Aside0.mk (Kd.R_lower (Kd.R_newB ho54 (g := gb506) (o := .cells #[.int .i64 t500, .int .i64 t501, .int .i64 t502, .string t503, .string t504] 23 (0, 0)) (by (with_reducible repeat (first | refine blk_drewN ?_ _ | refine blk_drew ?_ | refine blk_alloc ?_ _)); exact BK506.out)) (below_size (by repeat (first | (with_reducible first | exact HB.out | apply below_alloc | apply pw_below_drewN | apply below_drew1 | refine below_set ?_ GE506.out) | exact HB.out)))); have n1_ := Aside0.mk (blk_below (g := gb506) (o := .cells #[.int .i64 t500, .int .i64 t501, .int .i64 t502, .string t503, .string t504] 23 (0, 0)) (by (with_reducible repeat (first | refine blk_drewN ?_ _ | refine blk_drew ?_ | refine blk_alloc ?_ _)); exact BK506.out) hb); have n2_ := Aside0.mk (below_step (by repeat (first | (with_reducible first | exact HB.out | apply below_alloc | apply pw_below_drewN | apply below_drew1 | refine below_set ?_ GE506.out) | exact HB.out)) hb); clear BK506; clear HB; have HO515 := n0_; have BK506 := n1_; have HB := n2_; clear n0_ n1_ n2_; clear hb ho54; have q55 : (a1 : Int) ≤ ((l0.length : Int) : Int) := of_decide_eq_true (by first | (with_reducible assumption) | assumption); obtain ⟨i055, hi055, _, hsz55, _⟩ := info_parts info23; have hroom55 : l0.length ≤ c0 := HC0.out; have hC55 : Kd.C k23 _ A0 l0.length l0 := HR0.out; have q055 : (0 : Int) ≤ (a1 : Int) := of_decide_eq_true (by first | (with_reducible assumption) | assumption); have hcut55 := cut_from (P := Tryd.prog) 30 23 .i64 Tryd.underlying30 hi055 5 hsz55 A0 l0.length c0 a1 q055 q55; have hr55 := Kd.C_drop (m := (a1 : Int).toNat) (c := c0) hC55 (by omega) hroom55; obtain ⟨A55, hA55⟩ : ∃ A1, A1 = (if c0 = (a1 : Int).toNat then A0 else (A0 : Option Addr).map (·.add ((a1 : Int).toNat * 5))) := ⟨_, rfl⟩; obtain ⟨c55, hc55⟩ : ∃ c1, c1 = c0 - (a1 : Int).toNat := ⟨_, rfl⟩; have hy55 : y516.length = l0.length - (a1 : Int).toNat := (by rw [Ny516.out, List.length_drop] <;> omega); rw [show (l0).drop (a1 : Int).toNat = y516 from Ny516.out.symm] at hr55; replace hr55 : Kd.C k23 _ A55 y516.length y516 := (by rw [hA55]; exact hr55); rw [← hy55, ← hA55, ← hc55] at hcut55; have HR519 := Aside0.mk hr55; have HC519 := Aside0.mk (show y516.length ≤ c55 from by rw [hy55, hc55]; exact Nat.sub_le_sub_right hroom55 _); clear hr55 hC55 hroom55 hi055 hsz55 hc55; have KY55 := Aside0.mk hy55; have KA55 := Aside0.mk hA55; clear hy55 hA55; replace q55 := eq_true q55) | ((with_reducible refine gate_builtin (b := .append) (xs := #[.tmp 95, .tmp 98]) rfl ?_); (try (refine gate_guard (by rfl) ?_; dsimp only)); at_builtin; refine Kd.R_append_rows k23 (w0 := w) w.heap.size rfl (.tmp 95) (.tmp 98) 30 23 (.agg #[(.int .i64 0), (.int .i64 0), (.int .i64 0), (.string ⟨#[]⟩), (.string ⟨#[]⟩)]) 56 rfl Tryd.underlying30 info23 rfl (by decide) (by omega) v514 y513 y516 _ _ _ (fun k_ => k_ ≠ gb506) (fun _ => False) rfl rfl ?aO ?aR (fun _ _ h => h) (fun _ h => h.elim) ?aF ?aB ?aS ?aL ?_; (case aR => repeat (first | exact (Kd.C_below HR519.out HB.out) | (with_reducible refine Kd.C_alloc ?_ _) | (with_reducible refine Kd.C_drewN ?_ _) | (with_reducible refine Kd.C_drew ?_))); (case aB => exact (by repeat (first | (with_reducible first | exact HB.out | apply below_alloc | apply pw_below_drewN | apply below_drew1 | refine below_set ?_ GE506.out) | exact HB.out))); (case aF => exact (fun k_ hk => Kd.freshB (g := gb506) (o := .cells #[.int .i64 t500, .int .i64 t501, .int .i64 t502, .string t503, .string t504] 23 (0, 0)) (by (with_reducible repeat (first | refine blk_drewN ?_ _ | refine blk_drew ?_ | refine blk_alloc ?_ _)); exact BK506.out) k_ hk)); (case aO => exact (by (with_reducible repeat (first | apply Kd.R_alloc | apply Kd.R_drewN | apply Kd.R_drew)); exact Kd.R_mono HO515.out (fun _ hk => hk.2))); (case aS => exact (below_size (by repeat (first | (with_reducible first | exact HB.out | apply below_alloc | apply pw_below_drewN | apply below_drew1 | refine below_set ?_ GE506.out) | exact HB.out)))); (case aL => have := LMc44.out; omega); intro v521 w56 ho hb hg hat; rw [← Ny520.out] at ho; have n0_ := Aside0.mk (blk_grown (g := gb506) (o := .cells #[.int .i64 t500, .int .i64 t501, .int .i64 t502, .string t503, .string t504] 23 (0, 0)) (by (with_reducible repeat (first | refine blk_drewN ?_ _ | refine blk_drew ?_ | refine blk_alloc ?_ _)); exact BK506.out) hg (Kd.R_away HO515.out (fun _ hk => hk.2))); have n1_ := Aside0.mk (hb); have n2_ := Aside0.mk (ho); clear BK506; clear HB; clear HO515; have BK506 := n0_; have HB := n1_; have HO522 := n2_; clear n0_ n1_ n2_; clear ho hb hg hat; have q57 : (a1 : Int) ≤ ((l0.length : Int) : Int) := of_decide_eq_true (by first | (with_reducible assumption) | assumption); obtain ⟨i057, hi057, _, hsz57, _⟩ := info_parts info23; have hroom57 : l0.length ≤ c0 := HC0.out; have hC57 : Kd.C k23 _ A0 l0.length l0 := HR0.out; have hcut57 := cut_to (P := Tryd.prog) 30 23 .i64 Tryd.underlying30 hi057 A0 l0.length c0 a1 (of_decide_eq_true (by first | (with_reducible assumption) | assumption)) q57 hroom57; have hr57 := Kd.C_take (m := (a1 : Int).toNat) hC57 (by omega); have hy57 : y523.length = (a1 : Int).toNat := (by rw [Ny523.out, List.length_take]; omega); rw [← Ny523.out] at hr57; rw [← hy57] at hcut57; have HR526 := Aside0.mk hr57; have HC526 := Aside0.mk (show y523.length ≤ c0 from by omega); clear hr57 hC57 hroom57 hi057 hsz57; have KY57 := Aside0.mk hy57; clear hy57; replace q57 := eq_true q57) | ((with_reducible refine gate_builtin (b := .append) (xs := #[.tmp 100, .tmp 103]) rfl ?_); (try (refine gate_guard (by rfl) ?_; dsimp only)); at_builtin; refine Kd.R_append_rows k23 (w0 := w) w.heap.size rfl (.tmp 100) (.tmp 103) 30 23 (.agg #[(.int .i64 0), (.int .i64 0), (.int .i64 0), (.string ⟨#[]⟩), (.string ⟨#[]⟩)]) 56 rfl Tryd.underlying30 info23 rfl (by decide) (by omega) v521 y520 y523 _ _ _ (fun k_ => k_ ≠ gb506) (fun _ => False) rfl rfl ?aO ?aR (fun _ _ h => h) (fun _ h => h.elim) ?aF ?aB ?aS ?aL ?_; (case aR => repeat (first | exact (Kd.C_below HR526.out HB.out) | (with_reducible refine Kd.C_alloc ?_ _) | (with_reducible refine Kd.C_drewN ?_ _) | (with_reducible refine Kd.C_drew ?_))); (case aB => exact (by repeat (first | (with_reducible first | exact HB.out | apply below_alloc | apply pw_below_drewN | apply below_drew1 | refine below_set ?_ GE506.out) | exact HB.out))); (case aF => exact (fun k_ hk => Kd.freshB (g := gb506) (o := .cells #[.int .i64 t500, .int .i64 t501, .int .i64 t502, .string t503, .string t504] 23 (0, 0)) (by (with_reducible repeat (first | refine blk_drewN ?_ _ | refine blk_drew ?_ | refine blk_alloc ?_ _)); exact BK506.out) k_ hk)); (case aO => exact (by (with_reducible repeat (first | apply Kd.R_alloc | apply Kd.R_drewN | apply Kd.R_drew)); exact HO522.out)); (case aS => exact (below_size (by repeat (first | (with_reducible first | exact HB.out | apply below_alloc | apply pw_below_drewN | apply below_drew1 | refine below_set ?_ GE506.out) | exact HB.out)))); (case aL => have := LMc47.out; omega); intro v528 w58 ho hb hg hat; rw [← Ny527.out] at ho; have n0_ := Aside0.mk (blk_grown (g := gb506) (o := .cells #[.int .i64 t500, .int .i64 t501, .int .i64 t502, .string t503, .string t504] 23 (0, 0)) (by (with_reducible repeat (first | refine blk_drewN ?_ _ | refine blk_drew ?_ | refine blk_alloc ?_ _)); exact BK506.out) hg (Kd.R_away HO522.out (fun _ hk => hk))); have n1_ := Aside0.mk (hb); have n2_ := Aside0.mk (ho); clear BK506; clear HB; clear HO522; have BK506 := n0_; have HB := n1_; have HO529 := n2_; clear n0_ n1_ n2_; clear ho hb hg hat; obtain ⟨Ao59, co59, eo59⟩ := Kd.R_slice HO529.out; subst eo59) | ((with_reducible refine gate_callee (f := 21) rfl ?_); refine goesL_ (some 107) rfl rfl Tryd.func21 (by kernel_rfl) rfl #[.slice Ao59 y527.length co59] rfl (by (try simp only [List.map_toArray, List.map_cons, List.map_nil]); first | done | rfl | (simp only [List.length_drop, List.length_take]; rfl)) ?_; (with_reducible refine (ver_Max.calls kj34 _ _ y527 t530 t531 t532 t533 t534 t535 _ ?side1 ?side2 A48.out).mono ?_); (case side1 => repeat (first | exact (Kd.R_reads' HO529.out).2.2 | (with_reducible refine Kd.C_alloc ?_ _) | (with_reducible refine Kd.C_drewN ?_ _) | (with_reducible refine Kd.C_drew ?_))); (case side2 => exact (Kd.R_reads' HO529.out).2.1); rintro e w60 ⟨rfl, hb⟩; refine ⟨_, rfl, ?_⟩; have n0_ := Aside0.mk (Kd.R_below (by (with_reducible repeat (first | apply Kd.R_alloc | apply Kd.R_drewN | apply Kd.R_drew)); exact HO529.out) hb); have n1_ := Aside0.mk (blk_below (g := gb506) (o := .cells #[.int .i64 t500, .int .i64 t501, .int .i64 t502, .string t503, .string t504] 23 (0, 0)) (by (with_reducible repeat (first | refine blk_drewN ?_ _ | refine blk_drew ?_ | refine blk_alloc ?_ _)); exact BK506.out) hb); have n2_ := Aside0.mk (below_step (by repeat (first | (with_reducible first | exact HB.out | apply below_alloc | apply pw_below_drewN | apply below_drew1 | refine below_set ?_ GE506.out) | exact HB.out)) hb); clear HO529; clear BK506; clear HB; have HO529 := n0_; have BK506 := n1_; have HB := n2_; clear n0_ n1_ n2_; (try clear hb); (try clear hb2); (try clear hk); (try clear hi)) | ((with_reducible refine gate_dst (N := 11) rfl ?_); (try (refine gate_guard (by rfl) ?_; dsimp only)); refine box_event ?hg (N := 11) ?hd (cs := #[.int .i64 0, .int .i64 0, .int .i64 0, .string (⟨#[]⟩ : ByteArray), .string (⟨#[]⟩ : ByteArray)]) (t := 23) ?hr ?_; (case hd => rfl); (case hg => rfl); (case hr => first | (go_simp; done) | (go_simp; rfl)); intro gb536 hg w61 hbox hb; have n0_ := Aside0.mk (Kd.R_below (Kd.R_elderB (by (with_reducible repeat (first | apply Kd.R_alloc | apply Kd.R_drewN | apply Kd.R_drew)); exact HO529.out) gb536 (Nat.le_of_eq hg.symm)) hb); have n1_ := Aside0.mk (blk_below (g := gb506) (o := .cells #[.int .i64 t500, .int .i64 t501, .int .i64 t502, .string t503, .string t504] 23 (0, 0)) (by (with_reducible repeat (first | refine blk_drewN ?_ _ | refine blk_drew ?_ | refine blk_alloc ?_ _)); exact BK506.out) hb); have n2_ := Aside0.mk (below_step (by repeat (first | (with_reducible first | exact HB.out | apply below_alloc | apply pw_below_drewN | apply below_drew1 | refine below_set ?_ GE506.out) | exact HB.out)) hb); have n3_ := Aside0.mk (hbox); have n4_ := Aside0.mk ((by rw [hg]; exact (below_size (by repeat (first | (with_reducible first | exact HB.out | apply below_alloc | apply pw_below_drewN | apply below_drew1 | refine below_set ?_ GE506.out) | exact HB.out))) : w.heap.size ≤ gb536)); have n5_ := Aside0.mk ((by rw [hg]; exact (below_size (by repeat (first | (with_reducible first | exact HB.out | apply below_alloc | apply pw_below_drewN | apply below_drew1 | refine below_set ?_ GE506.out) | exact HB.out))) : w.heap.size ≤ gb536)); have n6_ := Aside0.mk ((by rw [hg]; exact Nat.ne_of_lt (blk_lt (g := gb506) (o := .cells #[.int .i64 t500, .int .i64 t501, .int .i64 t502, .string t503, .string t504] 23 (0, 0)) (by (with_reducible repeat (first | refine blk_drewN ?_ _ | refine blk_drew ?_ | refine blk_alloc ?_ _)); exact BK506.out)) : gb506 ≠ gb536)); have n7_ := Aside0.mk ((by rw [hg]; exact Nat.ne_of_gt (blk_lt (g := gb506) (o := .cells #[.int .i64 t500, .int .i64 t501, .int .i64 t502, .string t503, .string t504] 23 (0, 0)) (by (with_reducible repeat (first | refine blk_drewN ?_ _ | refine blk_drew ?_ | refine blk_alloc ?_ _)); exact BK506.out)) : gb536 ≠ gb506)); clear HO529; clear BK506; clear HB; have HO529 := n0_; have BK506 := n1_; have HB := n2_; have BK536 := n3_; have GW536 := n4_; have GE536 := n5_; have NB506_536 := n6_; have NB536_506 := n7_; clear n0_ n1_ n2_ n3_ n4_ n5_ n6_ n7_; clear hb hbox hg; have hnb62 := NB536_506.out; have hnc62 := NB506_536.out; have hcz63_0 : w61.cell? ⟨gb536, 0, none⟩ = some (.int .i64 0) := (blk_cell BK536.out 0).trans rfl; have hcz63_1 : w61.cell? ⟨gb536, 1, none⟩ = some (.int .i64 0) := (blk_cell BK536.out 1).trans rfl; have hcz63_2 : w61.cell? ⟨gb536, 2, none⟩ = some (.int .i64 0) := (blk_cell BK536.out 2).trans rfl; have hcz63_3 : w61.cell? ⟨gb536, 3, none⟩ = some (.string (⟨#[]⟩ : ByteArray)) := (blk_cell BK536.out 3).trans rfl; have hcz63_4 : w61.cell? ⟨gb536, 4, none⟩ = some (.string (⟨#[]⟩ : ByteArray)) := (blk_cell BK536.out 4).trans rfl; have hfz63_0 := blk_frozen BK536.out 0; have hfz63_1 := blk_frozen BK536.out 1; have hfz63_2 := blk_frozen BK536.out 2; have hfz63_3 := blk_frozen BK536.out 3; have hfz63_4 := blk_frozen BK536.out 4; have hcz64_0 : w61.cell? ⟨gb506, 0, none⟩ = some (.int .i64 t500) := (blk_cell BK506.out 0).trans rfl; have hcz64_1 : w61.cell? ⟨gb506, 1, none⟩ = some (.int .i64 t501) := (blk_cell BK506.out 1).trans rfl; have hcz64_2 : w61.cell? ⟨gb506, 2, none⟩ = some (.int .i64 t502) := (blk_cell BK506.out 2).trans rfl; have hcz64_3 : w61.cell? ⟨gb506, 3, none⟩ = some (.string t503) := (blk_cell BK506.out 3).trans rfl; have hcz64_4 : w61.cell? ⟨gb506, 4, none⟩ = some (.string t504) := (blk_cell BK506.out 4).trans rfl; have hfz64_0 := blk_frozen BK506.out 0; have hfz64_1 := blk_frozen BK506.out 1; have hfz64_2 := blk_frozen BK506.out 2; have hfz64_3 := blk_frozen BK506.out 3; have hfz64_4 := blk_frozen BK506.out 4) | (go_at_call 19; (with_reducible refine (ver_Compare.calls kj34 t530 t531 t532 t533 t534 t500 t501 t502 t503 t504 t537 _ A50.out).mono ?_); rintro e w65 ⟨rfl, hb⟩; have n0_ := Aside0.mk (Kd.R_below (by (with_reducible repeat (first | apply Kd.R_alloc | apply Kd.R_drewN | apply Kd.R_drew)); exact (Kd.R_mono (Kd.R_far (p := ⟨gb536, 4, none⟩) (Kd.R_far (p := ⟨gb536, 3, none⟩) (Kd.R_far (p := ⟨gb536, 2, none⟩) (Kd.R_far (p := ⟨gb536, 1, none⟩) (Kd.R_far (p := ⟨gb536, 0, none⟩) (Kd.R_mono HO529.out (fun k_ hk => (⟨hk, hk.2⟩ : _ ∧ k_ ≠ gb536))) (fun _ hk => hk.2) (.int .i64 t530)) (fun _ hk => hk.2) (.int .i64 t531)) (fun _ hk => hk.2) (.int .i64 t532)) (fun _ hk => hk.2) (.string t533)) (fun _ hk => hk.2) (.string t534)) (fun _ h_ => h_.1))) hb); have n1_ := Aside0.mk (blk_below (g := gb506) (o := .cells #[.int .i64 t500, .int .i64 t501, .int .i64 t502, .string t503, .string t504] 23 (0, 0)) (by (with_reducible repeat (first | refine blk_drewN ?_ _ | refine blk_drew ?_ | refine blk_alloc ?_ _)); refine blk_far ?_ NB506_536.out _; (with_reducible repeat (first | refine blk_drewN ?_ _ | refine blk_drew ?_ | refine blk_alloc ?_ _)); refine blk_far ?_ NB506_536.out _; (with_reducible repeat (first | refine blk_drewN ?_ _ | refine blk_drew ?_ | refine blk_alloc ?_ _)); refine blk_far ?_ NB506_536.out _; (with_reducible repeat (first | refine blk_drewN ?_ _ | refine blk_drew ?_ | refine blk_alloc ?_ _)); refine blk_far ?_ NB506_536.out _; (with_reducible repeat (first | refine blk_drewN ?_ _ | refine blk_drew ?_ | refine blk_alloc ?_ _)); refine blk_far ?_ NB506_536.out _; (with_reducible repeat (first | refine blk_drewN ?_ _ | refine blk_drew ?_ | refine blk_alloc ?_ _)); exact BK506.out) hb); have n2_ := Aside0.mk (blk_below (g := gb536) (o := .cells #[.int .i64 t530, .int .i64 t531, .int .i64 t532, .string t533, .string t534] 23 (0, 0)) (by (with_reducible repeat (first | refine blk_drewN ?_ _ | refine blk_drew ?_ | refine blk_alloc ?_ _)); refine blk_put (cs := #[.int .i64 t530, .int .i64 t531, .int .i64 t532, .string t533, .string (⟨#[]⟩ : ByteArray)]) ?_ 4 _ rfl; (with_reducible repeat (first | refine blk_drewN ?_ _ | refine blk_drew ?_ | refine blk_alloc ?_ _)); refine blk_put (cs := #[.int .i64 t530, .int .i64 t531, .int .i64 t532, .string (⟨#[]⟩ : ByteArray), .string (⟨#[]⟩ : ByteArray)]) ?_ 3 _ rfl; (with_reducible repeat (first | refine blk_drewN ?_ _ | refine blk_drew ?_ | refine blk_alloc ?_ _)); refine blk_put (cs := #[.int .i64 t530, .int .i64 t531, .int .i64 0, .string (⟨#[]⟩ : ByteArray), .string (⟨#[]⟩ : ByteArray)]) ?_ 2 _ rfl; (with_reducible repeat (first | refine blk_drewN ?_ _ | refine blk_drew ?_ | refine blk_alloc ?_ _)); refine blk_put (cs := #[.int .i64 t530, .int .i64 0, .int .i64 0, .string (⟨#[]⟩ : ByteArray), .string (⟨#[]⟩ : ByteArray)]) ?_ 1 _ rfl; (with_reducible repeat (first | refine blk_drewN ?_ _ | refine blk_drew ?_ | refine blk_alloc ?_ _)); refine blk_put (cs := #[.int .i64 0, .int .i64 0, .int .i64 0, .string (⟨#[]⟩ : ByteArray), .string (⟨#[]⟩ : ByteArray)]) ?_ 0 _ rfl; (with_reducible repeat (first | refine blk_drewN ?_ _ | refine blk_drew ?_ | refine blk_alloc ?_ _)); exact BK536.out) hb); have n3_ := Aside0.mk (below_step (by repeat (first | (with_reducible first | exact HB.out | apply below_alloc | apply pw_below_drewN | apply below_drew1 | refine below_set ?_ GE506.out | refine below_set ?_ GE536.out) | exact HB.out)) hb); clear HO529; clear BK506; clear BK536; clear HB; have HO529 := n0_; have BK506 := n1_; have BK536 := n2_; have HB := n3_; clear n0_ n1_ n2_ n3_; (try clear hb); (try clear hb2); (try clear hk); (try clear hi)) | (go_at_call 10; (with_reducible refine (armadalaw07_live.calls kj34  true _ A52.out (LW0 := LW.out.below (by repeat (first | (with_reducible first | exact HB.out | apply below_alloc | apply pw_below_drewN | apply below_drew1 | refine below_set ?_ GE506.out | refine below_set ?_ GE536.out) | exact HB.out)))).mono ?_); rintro e w66 ⟨rfl, hb⟩; have n0_ := Aside0.mk (Kd.R_below (by (with_reducible repeat (first | apply Kd.R_alloc | apply Kd.R_drewN | apply Kd.R_drew)); exact HO529.out) hb); have n1_ := Aside0.mk (blk_below (g := gb506) (o := .cells #[.int .i64 t500, .int .i64 t501, .int .i64 t502, .string t503, .string t504] 23 (0, 0)) (by (with_reducible repeat (first | refine blk_drewN ?_ _ | refine blk_drew ?_ | refine blk_alloc ?_ _)); exact BK506.out) hb); have n2_ := Aside0.mk (blk_below (g := gb536) (o := .cells #[.int .i64 t530, .int .i64 t531, .int .i64 t532, .string t533, .string t534] 23 (0, 0)) (by (with_reducible repeat (first | refine blk_drewN ?_ _ | refine blk_drew ?_ | refine blk_alloc ?_ _)); exact BK536.out) hb); have n3_ := Aside0.mk (below_step (by repeat (first | (with_reducible first | exact HB.out | apply below_alloc | apply pw_below_drewN | apply below_drew1 | refine below_set ?_ GE506.out | refine below_set ?_ GE536.out) | exact HB.out)) hb); clear HO529; clear BK506; clear BK536; clear HB; have HO529 := n0_; have BK506 := n1_; have BK536 := n2_; have HB := n3_; clear n0_ n1_ n2_ n3_; (try clear hb); (try clear hb2); (try clear hk); (try clear hi)))
                                  go_ret
                                  exact ⟨by first | rfl | (simp [errW_none, errW_some] <;> rfl) | (simp [*, errW_none, errW_some] <;> rfl), by repeat (first | (with_reducible first | exact HB.out | apply below_alloc | apply pw_below_drewN | apply below_drew1 | refine below_set ?_ GE506.out | refine below_set ?_ GE536.out) | exact HB.out)⟩
                                · rw [if_neg c51] at H
                                  have c51b0 : (t537 == 0) = false := beq_eq_false_iff_ne.mpr c51
                                  have c51b1 : (t537 != 0) = true := bne_iff_ne.mpr c51
                                  exact absurd H (by simp)
                              · rw [if_neg c49] at H
                                have c49b0 : (t535 == t505) = false := by simpa using c49
                                (try (have c49b1 : decide (t535 = t505) = false := by simpa using c49))
                                (try (have c49b2 : (t535 == t505) = false := by simpa using c49))
                                (try (have c49b3 : ¬ (t535 = t505) := by simpa using c49))
                                clear c49
                                exact absurd H (by simp)
                            · rw [if_neg c47] at H
                              exact absurd H (by simp)
                          · rw [if_neg c44] at H
                            exact absurd H (by simp)
                        · rw [if_neg c43] at H
                          exact absurd H (by simp)
                      · rw [if_neg c42] at H
                        exact absurd H (by simp)
end
end Go.Proofs.YthoiepkejhhcoaaDoor.P
