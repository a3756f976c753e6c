/- Printed functions, merged. -/
import Derived.Test.YthoiepkejhhcoaaDoorZVKM0
import Derived.Test.YthoiepkejhhcoaaDoorZVKVLaid
import Derived.Test.YthoiepkejhhcoaaDoorZVKM2
import Derived.Test.YthoiepkejhhcoaaDoorZVKM4
import Derived.Test.YthoiepkejhhcoaaDoorZVKVCheck
import Derived.Test.YthoiepkejhhcoaaDoorZVKVParse
namespace Go.Proofs.YthoiepkejhhcoaaDoor.P
open Go.RowKit Go.Proofs.YthoiepkejhhcoaaDoorW.PrintWords Go.Proofs.YthoiepkejhhcoaaDoorW.PrintLast Go.Proofs.YthoiepkejhhcoaaDoorW.PrintMore
attribute [local go_sem] max2_int min2_int max_two min_two max_three min_three max_four min_four   -- for this text's walks alone
set_option linter.unusedVariables false
set_option linter.unusedSimpArgs false
section
attribute [local go_sem high] eqA23
mutual
def armadalaw07_VerBack.j0 : Nat → ByteArray → Bool → Int → Int → Int → ByteArray → ByteArray → Option (Bool)
  | 0, _, _, _, _, _, _, _ => none
  | k + 1, x1, x23, x404000, x404001, x404002, x404003, x404004 => if x23 = true then ((armadalaw07_live.f k).bind fun t404 => (some t404)) else ((ver_Text.f x404000 x404001 x404002 x404003 x404004).bind fun t405 => ((ver_Parse.f t405).bind fun bt406 => ((ver_Check.f x404000 x404001 x404002 x404003 x404004).bind fun t413 => (if (bt406.2.2.2.2.2 != t413) = true then (armadalaw07_VerBack.j1 k x1 true) else (if bt406.2.2.2.2.2 = true then (armadalaw07_VerBack.j1 k x1 (!(bt406.1 == x404000) || (!(bt406.2.1 == x404001) || (!(bt406.2.2.1 == x404002) || (!(bt406.2.2.2.1.toList == x404003.toList) || (!(bt406.2.2.2.2.1.toList == x404004.toList))))))) else (armadalaw07_VerBack.j1 k x1 false))))))
def armadalaw07_VerBack.j1 : Nat → ByteArray → Bool → Option (Bool)
  | 0, _, _ => none
  | k + 1, x1, x42 => if x42 = true then (some false) else ((ver_Parse.f x1).bind fun bt414 => (if bt414.2.2.2.2.2 = true then ((ver_Check.f bt414.1 bt414.2.1 bt414.2.2.1 bt414.2.2.2.1 bt414.2.2.2.2.1).bind fun t421 => (if t421 = true then ((ver_Text.f bt414.1 bt414.2.1 bt414.2.2.1 bt414.2.2.2.1 bt414.2.2.2.2.1).bind fun t422 => (if t422.toList = x1.toList then ((armadalaw07_live.f k).bind fun t423 => (some t423)) else (some false))) else (some false))) else ((armadalaw07_live.f k).bind fun t424 => (some t424))))
end
def armadalaw07_VerBack.f (k : Nat) (a0_0 : Int) (a0_1 : Int) (a0_2 : Int) (a0_3 : ByteArray) (a0_4 : ByteArray) (a1 : ByteArray) : Option (Bool) := if (a0_3.size : Int) > 200 then (armadalaw07_VerBack.j0 k a1 true a0_0 a0_1 a0_2 a0_3 a0_4) else (if (a0_4.size : Int) > 200 then (armadalaw07_VerBack.j0 k a1 true a0_0 a0_1 a0_2 a0_3 a0_4) else (armadalaw07_VerBack.j0 k a1 (decide ((a1.size : Int) > 200)) a0_0 a0_1 a0_2 a0_3 a0_4))
theorem armadalaw07_VerBack.mono_l : ∀ k, (∀ y0 y1 y2 y3 y4 y5 y6, LeO (armadalaw07_VerBack.j0 k y0 y1 y2 y3 y4 y5 y6) (armadalaw07_VerBack.j0 (k + 1) y0 y1 y2 y3 y4 y5 y6)) ∧ (∀ y0 y1, LeO (armadalaw07_VerBack.j1 k y0 y1) (armadalaw07_VerBack.j1 (k + 1) y0 y1))
  | 0 => ⟨fun _ _ _ _ _ _ _ r h => by simp [armadalaw07_VerBack.j0] at h, fun _ _ r h => by simp [armadalaw07_VerBack.j1] at h⟩
  | k + 1 => by
    obtain ⟨ih0, ih1⟩ := armadalaw07_VerBack.mono_l k
    refine ⟨?_, ?_⟩
    · intro y0 y1 y2 y3 y4 y5 y6
      unfold armadalaw07_VerBack.j0
      repeat' first
      | (with_reducible exact ih0 _ _ _ _ _ _ _)
      | (with_reducible exact ih1 _ _)
      | (with_reducible exact armadalaw07_live.mono _)
      | (with_reducible exact LeO.refl _)
      | (with_reducible exact LeO.none _)
      | (with_reducible refine LeO.ite ?_ ?_)
      | (with_reducible refine LeO.bind ?_ (fun _ => ?_))
      | exact ih0 _ _ _ _ _ _ _
      | exact ih1 _ _
      | exact armadalaw07_live.mono _
      | exact LeO.none _
      | refine LeO.ite ?_ ?_
      | refine LeO.bind ?_ (fun _ => ?_)
    · intro y0 y1
      unfold armadalaw07_VerBack.j1
      repeat' first
      | (with_reducible exact ih0 _ _ _ _ _ _ _)
      | (with_reducible exact ih1 _ _)
      | (with_reducible exact armadalaw07_live.mono _)
      | (with_reducible exact LeO.refl _)
      | (with_reducible exact LeO.none _)
      | (with_reducible refine LeO.ite ?_ ?_)
      | (with_reducible refine LeO.bind ?_ (fun _ => ?_))
      | exact ih0 _ _ _ _ _ _ _
      | exact ih1 _ _
      | exact armadalaw07_live.mono _
      | exact LeO.none _
      | refine LeO.ite ?_ ?_
      | refine LeO.bind ?_ (fun _ => ?_)
theorem armadalaw07_VerBack.mono : ∀ a0 a1 a2 a3 a4 a5 k, LeO (armadalaw07_VerBack.f k a0 a1 a2 a3 a4 a5) (armadalaw07_VerBack.f (k + 1) a0 a1 a2 a3 a4 a5) := by
  intro a0 a1 a2 a3 a4 a5 k
  obtain ⟨ih0, ih1⟩ := armadalaw07_VerBack.mono_l k
  unfold armadalaw07_VerBack.f
  repeat' first
      | (with_reducible exact ih0 _ _ _ _ _ _ _)
      | (with_reducible exact ih1 _ _)
      | (with_reducible exact armadalaw07_live.mono _)
      | (with_reducible exact LeO.refl _)
      | (with_reducible exact LeO.none _)
      | (with_reducible refine LeO.ite ?_ ?_)
      | (with_reducible refine LeO.bind ?_ (fun _ => ?_))
      | exact ih0 _ _ _ _ _ _ _
      | exact ih1 _ _
      | exact armadalaw07_live.mono _
      | exact LeO.none _
      | refine LeO.ite ?_ ?_
      | refine LeO.bind ?_ (fun _ => ?_)
set_option maxHeartbeats 8000000 in
set_option maxRecDepth 100000 in
theorem armadalaw07_VerBack.calls (k : Nat) (a0_0 : Int) (a0_1 : Int) (a0_2 : Int) (a0_3 : ByteArray) (a0_4 : ByteArray) (a1 : ByteArray) (r : Bool) (w : World) (h : armadalaw07_VerBack.f k a0_0 a0_1 a0_2 a0_3 a0_4 a1 = some r) (hT_ : r = true := by rfl) (LW0 : LaidW w) :
    Calls Tryd.prog 5 #[.agg #[.int .i64 a0_0, .int .i64 a0_1, .int .i64 a0_2, .string a0_3, .string a0_4], .string a1] w fun e w' => e = .returned (.bool r) ∧ Below w.heap.size w w' := by
  subst hT_
  have LW := Aside0.mk LW0
  clear LW0
  have hu23 := Tryd.underlying23
  have HB := Aside0.mk (Below.refl w.heap.size w)
  have H : (if (a0_3.size : Int) > 200 then (armadalaw07_VerBack.j0 k a1 true a0_0 a0_1 a0_2 a0_3 a0_4) else (if (a0_4.size : Int) > 200 then (armadalaw07_VerBack.j0 k a1 true a0_0 a0_1 a0_2 a0_3 a0_4) else (armadalaw07_VerBack.j0 k a1 (decide ((a1.size : Int) > 200)) a0_0 a0_1 a0_2 a0_3 a0_4))) = some true := h
  clear h
  have HC3 := Aside0.mk H
  clear H
  go_enter Tryd.func5, Tryd.ntmps5
  go_upto_region 1 with (first | ((with_reducible refine gate_dst (N := 2) rfl ?_); (try (refine gate_guard (by rfl) ?_; dsimp only)); refine box_event ?hg (N := 2) ?hd (cs := #[.int .i64 a0_0, .int .i64 a0_1, .int .i64 a0_2, .string a0_3, .string a0_4]) (t := 23) ?hr ?_; (case hd => rfl); (case hg => rfl); (case hr => first | (go_simp; done) | (go_simp; rfl)); intro gb403 hg w4 hbox hb; have n0_ := Aside0.mk (below_step (by repeat (first | (with_reducible first | exact HB.out | apply below_alloc | apply pw_below_drewN | apply below_drew1) | exact HB.out)) hb); have n1_ := Aside0.mk (hbox); have n2_ := Aside0.mk ((by rw [hg]; exact (below_size (by repeat (first | (with_reducible first | exact HB.out | apply below_alloc | apply pw_below_drewN | apply below_drew1) | exact HB.out))) : w.heap.size ≤ gb403)); have n3_ := Aside0.mk ((by rw [hg]; exact (below_size (by repeat (first | (with_reducible first | exact HB.out | apply below_alloc | apply pw_below_drewN | apply below_drew1) | exact HB.out))) : w.heap.size ≤ gb403)); clear HB; have HB := n0_; have BK403 := n1_; have GW403 := n2_; have GE403 := n3_; clear n0_ n1_ n2_ n3_; clear hb hbox hg))
  (try simp only [Act.put, List.setIfInBounds_toArray, List.set_cons_zero, List.set_cons_succ])
  go_cut [23] (fun v23 wc => ∃ (kq : Nat) (x23_2 : Bool), v23 = .bool x23_2 ∧ Aside0 (armadalaw07_VerBack.j0 kq a1 x23_2 a0_0 a0_1 a0_2 a0_3 a0_4 = some true) ∧ Aside0 (kq ≤ k) ∧ Aside0 (wc.heap[gb403]? = some (.cells #[.int .i64 a0_0, .int .i64 a0_1, .int .i64 a0_2, .string a0_3, .string a0_4] 23 (0, 0))) ∧ Aside0 (Below w.heap.size w wc))
  case first =>
    have H := HC3.out
    clear HC3
    by_cases c5 : (a0_3.size : Int) > 200
    · rw [if_pos c5] at H
      have c5b0 : decide (200 < (a0_3.size : Int)) = true := decide_eq_true c5
      have c5b1 : decide (200 < a0_3.size) = true := decide_eq_true (by omega)
      clear c5
      (first | rw [c5b0] | (simp only [i64_w, i32_w]; rw [c5b0]) | skip)
      have H' := Aside0.mk H
      clear H
      have hcz6_0 : w4.cell? ⟨gb403, 0, none⟩ = some (.int .i64 a0_0) := (blk_cell BK403.out 0).trans rfl
      have hcz6_1 : w4.cell? ⟨gb403, 1, none⟩ = some (.int .i64 a0_1) := (blk_cell BK403.out 1).trans rfl
      have hcz6_2 : w4.cell? ⟨gb403, 2, none⟩ = some (.int .i64 a0_2) := (blk_cell BK403.out 2).trans rfl
      have hcz6_3 : w4.cell? ⟨gb403, 3, none⟩ = some (.string a0_3) := (blk_cell BK403.out 3).trans rfl
      have hcz6_4 : w4.cell? ⟨gb403, 4, none⟩ = some (.string a0_4) := (blk_cell BK403.out 4).trans rfl
      have hfz6_0 := blk_frozen BK403.out 0
      have hfz6_1 := blk_frozen BK403.out 1
      have hfz6_2 := blk_frozen BK403.out 2
      have hfz6_3 := blk_frozen BK403.out 3
      have hfz6_4 := blk_frozen BK403.out 4
      go_wp2
      go_meet
      case rel => exact ⟨_, (true), (by first | rfl | (simp; done) | (simp [*]; done)), H', ⟨by first | omega | exact Nat.le_refl _⟩, ⟨by (with_reducible repeat (first | refine blk_drewN ?_ _ | refine blk_drew ?_ | refine blk_alloc ?_ _)); exact BK403.out⟩, ⟨by repeat (first | (with_reducible first | exact HB.out | apply below_alloc | apply pw_below_drewN | apply below_drew1 | refine below_set ?_ GE403.out) | exact HB.out)⟩⟩
    · rw [if_neg c5] at H
      have c5b0 : decide (200 < (a0_3.size : Int)) = false := decide_eq_false c5
      have c5b1 : decide (200 < a0_3.size) = false := decide_eq_false (by omega)
      clear c5
      (first | rw [c5b0] | (simp only [i64_w, i32_w]; rw [c5b0]) | skip)
      by_cases c7 : (a0_4.size : Int) > 200
      · rw [if_pos c7] at H
        have c7b0 : decide (200 < (a0_4.size : Int)) = true := decide_eq_true c7
        have c7b1 : decide (200 < a0_4.size) = true := decide_eq_true (by omega)
        clear c7
        have H' := Aside0.mk H
        clear H
        have hcz8_0 : w4.cell? ⟨gb403, 0, none⟩ = some (.int .i64 a0_0) := (blk_cell BK403.out 0).trans rfl
        have hcz8_1 : w4.cell? ⟨gb403, 1, none⟩ = some (.int .i64 a0_1) := (blk_cell BK403.out 1).trans rfl
        have hcz8_2 : w4.cell? ⟨gb403, 2, none⟩ = some (.int .i64 a0_2) := (blk_cell BK403.out 2).trans rfl
        have hcz8_3 : w4.cell? ⟨gb403, 3, none⟩ = some (.string a0_3) := (blk_cell BK403.out 3).trans rfl
        have hcz8_4 : w4.cell? ⟨gb403, 4, none⟩ = some (.string a0_4) := (blk_cell BK403.out 4).trans rfl
        have hfz8_0 := blk_frozen BK403.out 0
        have hfz8_1 := blk_frozen BK403.out 1
        have hfz8_2 := blk_frozen BK403.out 2
        have hfz8_3 := blk_frozen BK403.out 3
        have hfz8_4 := blk_frozen BK403.out 4
        go_wp2
        go_meet
        case rel => exact ⟨_, (true), (by first | rfl | (simp; done) | (simp [*]; done)), H', ⟨by first | omega | exact Nat.le_refl _⟩, ⟨by (with_reducible repeat (first | refine blk_drewN ?_ _ | refine blk_drew ?_ | refine blk_alloc ?_ _)); exact BK403.out⟩, ⟨by repeat (first | (with_reducible first | exact HB.out | apply below_alloc | apply pw_below_drewN | apply below_drew1 | refine below_set ?_ GE403.out) | exact HB.out)⟩⟩
      · rw [if_neg c7] at H
        have c7b0 : decide (200 < (a0_4.size : Int)) = false := decide_eq_false c7
        have c7b1 : decide (200 < a0_4.size) = false := decide_eq_false (by omega)
        clear c7
        have H' := Aside0.mk H
        clear H
        have hcz9_0 : w4.cell? ⟨gb403, 0, none⟩ = some (.int .i64 a0_0) := (blk_cell BK403.out 0).trans rfl
        have hcz9_1 : w4.cell? ⟨gb403, 1, none⟩ = some (.int .i64 a0_1) := (blk_cell BK403.out 1).trans rfl
        have hcz9_2 : w4.cell? ⟨gb403, 2, none⟩ = some (.int .i64 a0_2) := (blk_cell BK403.out 2).trans rfl
        have hcz9_3 : w4.cell? ⟨gb403, 3, none⟩ = some (.string a0_3) := (blk_cell BK403.out 3).trans rfl
        have hcz9_4 : w4.cell? ⟨gb403, 4, none⟩ = some (.string a0_4) := (blk_cell BK403.out 4).trans rfl
        have hfz9_0 := blk_frozen BK403.out 0
        have hfz9_1 := blk_frozen BK403.out 1
        have hfz9_2 := blk_frozen BK403.out 2
        have hfz9_3 := blk_frozen BK403.out 3
        have hfz9_4 := blk_frozen BK403.out 4
        go_wp2
        go_meet
        case rel => exact ⟨_, (decide ((a1.size : Int) > 200)), (by first | rfl | (simp; done) | (simp [*]; done)), H', ⟨by first | omega | exact Nat.le_refl _⟩, ⟨by (with_reducible repeat (first | refine blk_drewN ?_ _ | refine blk_drew ?_ | refine blk_alloc ?_ _)); exact BK403.out⟩, ⟨by repeat (first | (with_reducible first | exact HB.out | apply below_alloc | apply pw_below_drewN | apply below_drew1 | refine below_set ?_ GE403.out) | exact HB.out)⟩⟩
  case rest =>
    clear HC3
    try clear p2
    try clear c5
    try clear c5b0
    try clear c5b1
    try clear c7
    try clear c7b0
    try clear c7b1
    try clear hcz6_0
    try clear hcz6_1
    try clear hcz6_2
    try clear hcz6_3
    try clear hcz6_4
    try clear hcz8_0
    try clear hcz8_1
    try clear hcz8_2
    try clear hcz8_3
    try clear hcz8_4
    try clear hcz9_0
    try clear hcz9_1
    try clear hcz9_2
    try clear hcz9_3
    try clear hcz9_4
    try clear hfz6_0
    try clear hfz6_1
    try clear hfz6_2
    try clear hfz6_3
    try clear hfz6_4
    try clear hfz8_0
    try clear hfz8_1
    try clear hfz8_2
    try clear hfz8_3
    try clear hfz8_4
    try clear hfz9_0
    try clear hfz9_1
    try clear hfz9_2
    try clear hfz9_3
    try clear hfz9_4
    obtain ⟨kq, x23_2, rfl, HA, HJ2, BK403, HB⟩ := hcut
    cases kq with
    | zero => exact absurd HA.out (by simp [armadalaw07_VerBack.j0])
    | succ kj2 =>
      have H := HA.out
      clear HA
      simp only [armadalaw07_VerBack.j0] at H
      by_cases c10 : x23_2 = true
      · subst c10
        have H1 : ((armadalaw07_live.f kj2).bind fun t404 => (some t404)) = some true := by rw [if_pos rfl] at H; exact H
        clear H
        have H := H1
        clear H1
        replace H := Option.bind_eq_some_iff.mp H
        obtain ⟨t404, A110, H⟩ := H
        replace H : (some t404) = some true := H
        have A11 := Aside0.mk A110
        clear A110
        obtain rfl := Option.some.inj H
        go_wp2_with (first | ((with_reducible refine gate_callee (f := 10) rfl ?_); refine goesL_ (some 24) rfl rfl Tryd.func10 (by kernel_rfl) rfl #[] rfl (by (try simp only [List.map_toArray, List.map_cons, List.map_nil]); first | done | rfl | (simp only [List.length_drop, List.length_take]; rfl)) ?_; (with_reducible refine (armadalaw07_live.calls kj2  true _ A11.out (LW0 := LW.out.below (by repeat (first | (with_reducible first | exact HB.out | apply below_alloc | apply pw_below_drewN | apply below_drew1 | refine below_set ?_ GE403.out) | exact HB.out)))).mono ?_); rintro e w12 ⟨rfl, hb⟩; refine ⟨_, rfl, ?_⟩; have n0_ := Aside0.mk (blk_below (g := gb403) (o := .cells #[.int .i64 a0_0, .int .i64 a0_1, .int .i64 a0_2, .string a0_3, .string a0_4] 23 (0, 0)) (by (with_reducible repeat (first | refine blk_drewN ?_ _ | refine blk_drew ?_ | refine blk_alloc ?_ _)); exact BK403.out) hb); have n1_ := Aside0.mk (below_step (by repeat (first | (with_reducible first | exact HB.out | apply below_alloc | apply pw_below_drewN | apply below_drew1 | refine below_set ?_ GE403.out) | exact HB.out)) hb); clear BK403; clear HB; have BK403 := n0_; have HB := n1_; clear n0_ n1_; (try clear hb); (try clear hb2); (try clear hk); (try clear hi)))
        go_ret
        exact ⟨by first | rfl | (simp [errW_none, errW_some] <;> rfl) | (simp [*, errW_none, errW_some] <;> rfl), by repeat (first | (with_reducible first | exact HB.out | apply below_alloc | apply pw_below_drewN | apply below_drew1 | refine below_set ?_ GE403.out) | exact HB.out)⟩
      · replace c10 := Bool.eq_false_iff.mpr c10
        subst c10
        have H1 : ((ver_Text.f a0_0 a0_1 a0_2 a0_3 a0_4).bind fun t405 => ((ver_Parse.f t405).bind fun bt406 => ((ver_Check.f a0_0 a0_1 a0_2 a0_3 a0_4).bind fun t413 => (if (bt406.2.2.2.2.2 != t413) = true then (armadalaw07_VerBack.j1 kj2 a1 true) else (if bt406.2.2.2.2.2 = true then (armadalaw07_VerBack.j1 kj2 a1 (!(bt406.1 == a0_0) || (!(bt406.2.1 == a0_1) || (!(bt406.2.2.1 == a0_2) || (!(bt406.2.2.2.1.toList == a0_3.toList) || (!(bt406.2.2.2.2.1.toList == a0_4.toList))))))) else (armadalaw07_VerBack.j1 kj2 a1 false)))))) = some true := by rw [if_neg (show ¬ (false = true) by decide)] at H; exact H
        clear H
        have H := H1
        clear H1
        replace H := Option.bind_eq_some_iff.mp H
        obtain ⟨t405, A130, H⟩ := H
        replace H : ((ver_Parse.f t405).bind fun bt406 => ((ver_Check.f a0_0 a0_1 a0_2 a0_3 a0_4).bind fun t413 => (if (bt406.2.2.2.2.2 != t413) = true then (armadalaw07_VerBack.j1 kj2 a1 true) else (if bt406.2.2.2.2.2 = true then (armadalaw07_VerBack.j1 kj2 a1 (!(bt406.1 == a0_0) || (!(bt406.2.1 == a0_1) || (!(bt406.2.2.1 == a0_2) || (!(bt406.2.2.2.1.toList == a0_3.toList) || (!(bt406.2.2.2.2.1.toList == a0_4.toList))))))) else (armadalaw07_VerBack.j1 kj2 a1 false))))) = some true := H
        have A13 := Aside0.mk A130
        clear A130
        replace H := Option.bind_eq_some_iff.mp H
        obtain ⟨⟨t406, t407, t408, t409, t410, t411⟩, A140, H⟩ := H
        replace H : ((ver_Check.f a0_0 a0_1 a0_2 a0_3 a0_4).bind fun t413 => (if (t411 != t413) = true then (armadalaw07_VerBack.j1 kj2 a1 true) else (if t411 = true then (armadalaw07_VerBack.j1 kj2 a1 (!(t406 == a0_0) || (!(t407 == a0_1) || (!(t408 == a0_2) || (!(t409.toList == a0_3.toList) || (!(t410.toList == a0_4.toList))))))) else (armadalaw07_VerBack.j1 kj2 a1 false)))) = some true := H
        have A14 := Aside0.mk A140
        clear A140
        have HC15 := Aside0.mk H
        clear H
        have hcz16_0 : wc.cell? ⟨gb403, 0, none⟩ = some (.int .i64 a0_0) := (blk_cell BK403.out 0).trans rfl
        have hcz16_1 : wc.cell? ⟨gb403, 1, none⟩ = some (.int .i64 a0_1) := (blk_cell BK403.out 1).trans rfl
        have hcz16_2 : wc.cell? ⟨gb403, 2, none⟩ = some (.int .i64 a0_2) := (blk_cell BK403.out 2).trans rfl
        have hcz16_3 : wc.cell? ⟨gb403, 3, none⟩ = some (.string a0_3) := (blk_cell BK403.out 3).trans rfl
        have hcz16_4 : wc.cell? ⟨gb403, 4, none⟩ = some (.string a0_4) := (blk_cell BK403.out 4).trans rfl
        have hfz16_0 := blk_frozen BK403.out 0
        have hfz16_1 := blk_frozen BK403.out 1
        have hfz16_2 := blk_frozen BK403.out 2
        have hfz16_3 := blk_frozen BK403.out 3
        have hfz16_4 := blk_frozen BK403.out 4
        go_upto_region 4 with (first | ((with_reducible refine gate_callee (f := 15) rfl ?_); refine goesL_ (some 27) rfl rfl Tryd.func15 (by kernel_rfl) rfl #[.agg #[.int .i64 a0_0, .int .i64 a0_1, .int .i64 a0_2, .string a0_3, .string a0_4]] rfl (by (try simp only [List.map_toArray, List.map_cons, List.map_nil]); first | done | rfl | (simp only [List.length_drop, List.length_take]; rfl)) ?_; (with_reducible refine (ver_Text.calls a0_0 a0_1 a0_2 a0_3 a0_4 t405 _ A13.out (LW0 := LW.out.below (by repeat (first | (with_reducible first | exact HB.out | apply below_alloc | apply pw_below_drewN | apply below_drew1 | refine below_set ?_ GE403.out) | exact HB.out)))).mono ?_); rintro e w17 ⟨rfl, hb⟩; refine ⟨_, rfl, ?_⟩; have n0_ := Aside0.mk (blk_below (g := gb403) (o := .cells #[.int .i64 a0_0, .int .i64 a0_1, .int .i64 a0_2, .string a0_3, .string a0_4] 23 (0, 0)) (by (with_reducible repeat (first | refine blk_drewN ?_ _ | refine blk_drew ?_ | refine blk_alloc ?_ _)); exact BK403.out) hb); have n1_ := Aside0.mk (below_step (by repeat (first | (with_reducible first | exact HB.out | apply below_alloc | apply pw_below_drewN | apply below_drew1 | refine below_set ?_ GE403.out) | exact HB.out)) hb); clear BK403; clear HB; have BK403 := n0_; have HB := n1_; clear n0_ n1_; (try clear hb); (try clear hb2); (try clear hk); (try clear hi)) | ((with_reducible refine gate_callee (f := 11) rfl ?_); refine goesL_ (some 28) rfl rfl Tryd.func11 (by kernel_rfl) rfl #[.string t405] rfl (by (try simp only [List.map_toArray, List.map_cons, List.map_nil]); first | done | rfl | (simp only [List.length_drop, List.length_take]; rfl)) ?_; (with_reducible refine (ver_Parse.calls t405 t406 t407 t408 t409 t410 t411 _ A14.out (LW0 := LW.out.below (by repeat (first | (with_reducible first | exact HB.out | apply below_alloc | apply pw_below_drewN | apply below_drew1 | refine below_set ?_ GE403.out) | exact HB.out)))).mono ?_); rintro e w18 ⟨rfl, hb⟩; refine ⟨_, rfl, ?_⟩; have n0_ := Aside0.mk (blk_below (g := gb403) (o := .cells #[.int .i64 a0_0, .int .i64 a0_1, .int .i64 a0_2, .string a0_3, .string a0_4] 23 (0, 0)) (by (with_reducible repeat (first | refine blk_drewN ?_ _ | refine blk_drew ?_ | refine blk_alloc ?_ _)); exact BK403.out) hb); have n1_ := Aside0.mk (below_step (by repeat (first | (with_reducible first | exact HB.out | apply below_alloc | apply pw_below_drewN | apply below_drew1 | refine below_set ?_ GE403.out) | exact HB.out)) hb); clear BK403; clear HB; have BK403 := n0_; have HB := n1_; clear n0_ n1_; (try clear hb); (try clear hb2); (try clear hk); (try clear hi)) | ((with_reducible refine gate_dst (N := 5) rfl ?_); (try (refine gate_guard (by rfl) ?_; dsimp only)); refine box_event ?hg (N := 5) ?hd (cs := #[.int .i64 0, .int .i64 0, .int .i64 0, .string (⟨#[]⟩ : ByteArray), .string (⟨#[]⟩ : ByteArray)]) (t := 23) ?hr ?_; (case hd => rfl); (case hg => rfl); (case hr => first | (go_simp; done) | (go_simp; rfl)); intro gb412 hg w19 hbox hb; have n0_ := Aside0.mk (blk_below (g := gb403) (o := .cells #[.int .i64 a0_0, .int .i64 a0_1, .int .i64 a0_2, .string a0_3, .string a0_4] 23 (0, 0)) (by (with_reducible repeat (first | refine blk_drewN ?_ _ | refine blk_drew ?_ | refine blk_alloc ?_ _)); exact BK403.out) hb); have n1_ := Aside0.mk (below_step (by repeat (first | (with_reducible first | exact HB.out | apply below_alloc | apply pw_below_drewN | apply below_drew1 | refine below_set ?_ GE403.out) | exact HB.out)) hb); have n2_ := Aside0.mk (hbox); have n3_ := Aside0.mk ((by rw [hg]; exact (below_size (by repeat (first | (with_reducible first | exact HB.out | apply below_alloc | apply pw_below_drewN | apply below_drew1 | refine below_set ?_ GE403.out) | exact HB.out))) : w.heap.size ≤ gb412)); have n4_ := Aside0.mk ((by rw [hg]; exact (below_size (by repeat (first | (with_reducible first | exact HB.out | apply below_alloc | apply pw_below_drewN | apply below_drew1 | refine below_set ?_ GE403.out) | exact HB.out))) : w.heap.size ≤ gb412)); have n5_ := Aside0.mk ((by rw [hg]; exact Nat.ne_of_lt (blk_lt (g := gb403) (o := .cells #[.int .i64 a0_0, .int .i64 a0_1, .int .i64 a0_2, .string a0_3, .string a0_4] 23 (0, 0)) (by (with_reducible repeat (first | refine blk_drewN ?_ _ | refine blk_drew ?_ | refine blk_alloc ?_ _)); exact BK403.out)) : gb403 ≠ gb412)); have n6_ := Aside0.mk ((by rw [hg]; exact Nat.ne_of_gt (blk_lt (g := gb403) (o := .cells #[.int .i64 a0_0, .int .i64 a0_1, .int .i64 a0_2, .string a0_3, .string a0_4] 23 (0, 0)) (by (with_reducible repeat (first | refine blk_drewN ?_ _ | refine blk_drew ?_ | refine blk_alloc ?_ _)); exact BK403.out)) : gb412 ≠ gb403)); clear BK403; clear HB; have BK403 := n0_; have HB := n1_; have BK412 := n2_; have GW412 := n3_; have GE412 := n4_; have NB403_412 := n5_; have NB412_403 := n6_; clear n0_ n1_ n2_ n3_ n4_ n5_ n6_; clear hb hbox hg; have hnb20 := NB412_403.out; have hnc20 := NB403_412.out; have hcz21_0 : w19.cell? ⟨gb412, 0, none⟩ = some (.int .i64 0) := (blk_cell BK412.out 0).trans rfl; have hcz21_1 : w19.cell? ⟨gb412, 1, none⟩ = some (.int .i64 0) := (blk_cell BK412.out 1).trans rfl; have hcz21_2 : w19.cell? ⟨gb412, 2, none⟩ = some (.int .i64 0) := (blk_cell BK412.out 2).trans rfl; have hcz21_3 : w19.cell? ⟨gb412, 3, none⟩ = some (.string (⟨#[]⟩ : ByteArray)) := (blk_cell BK412.out 3).trans rfl; have hcz21_4 : w19.cell? ⟨gb412, 4, none⟩ = some (.string (⟨#[]⟩ : ByteArray)) := (blk_cell BK412.out 4).trans rfl; have hfz21_0 := blk_frozen BK412.out 0; have hfz21_1 := blk_frozen BK412.out 1; have hfz21_2 := blk_frozen BK412.out 2; have hfz21_3 := blk_frozen BK412.out 3; have hfz21_4 := blk_frozen BK412.out 4))
        (try simp only [Act.put, List.setIfInBounds_toArray, List.set_cons_zero, List.set_cons_succ])
        go_cut [42] (fun v42 wc => ∃ (kq : Nat) (x42_14 : Bool), v42 = .bool x42_14 ∧ Aside0 (armadalaw07_VerBack.j1 kq a1 x42_14 = some true) ∧ Aside0 (kq ≤ kj2) ∧ Aside0 (wc.heap[gb403]? = some (.cells #[.int .i64 a0_0, .int .i64 a0_1, .int .i64 a0_2, .string a0_3, .string a0_4] 23 (0, 0))) ∧ Aside0 (wc.heap[gb412]? = some (.cells #[.int .i64 t406, .int .i64 t407, .int .i64 t408, .string t409, .string t410] 23 (0, 0))) ∧ Aside0 (Below w.heap.size w wc))
        case first =>
          have H := HC15.out
          clear HC15
          replace H := Option.bind_eq_some_iff.mp H
          obtain ⟨t413, A220, H⟩ := H
          replace H : (if (t411 != t413) = true then (armadalaw07_VerBack.j1 kj2 a1 true) else (if t411 = true then (armadalaw07_VerBack.j1 kj2 a1 (!(t406 == a0_0) || (!(t407 == a0_1) || (!(t408 == a0_2) || (!(t409.toList == a0_3.toList) || (!(t410.toList == a0_4.toList))))))) else (armadalaw07_VerBack.j1 kj2 a1 false))) = some true := H
          have A22 := Aside0.mk A220
          clear A220
          by_cases c23 : (t411 != t413) = true
          · rw [if_pos c23] at H
            have c23b0 : (t411 != t413) = true := c23
            (try (have c23b1 : decide (t411 = t413) = false := by simpa using c23))
            (try (have c23b2 : (t411 == t413) = false := by simpa using c23))
            (try (have c23b3 : ¬ (t411 = t413) := by simpa using c23))
            clear c23
            (first | rw [c23b0] | (simp only [i64_w, i32_w]; rw [c23b0]) | skip)
            have H' := Aside0.mk H
            clear H
            have hnb24 := NB403_412.out
            have hnc24 := NB412_403.out
            have hcz25_0 : w19.cell? ⟨gb403, 0, none⟩ = some (.int .i64 a0_0) := (blk_cell BK403.out 0).trans rfl
            have hcz25_1 : w19.cell? ⟨gb403, 1, none⟩ = some (.int .i64 a0_1) := (blk_cell BK403.out 1).trans rfl
            have hcz25_2 : w19.cell? ⟨gb403, 2, none⟩ = some (.int .i64 a0_2) := (blk_cell BK403.out 2).trans rfl
            have hcz25_3 : w19.cell? ⟨gb403, 3, none⟩ = some (.string a0_3) := (blk_cell BK403.out 3).trans rfl
            have hcz25_4 : w19.cell? ⟨gb403, 4, none⟩ = some (.string a0_4) := (blk_cell BK403.out 4).trans rfl
            have hfz25_0 := blk_frozen BK403.out 0
            have hfz25_1 := blk_frozen BK403.out 1
            have hfz25_2 := blk_frozen BK403.out 2
            have hfz25_3 := blk_frozen BK403.out 3
            have hfz25_4 := blk_frozen BK403.out 4
            go_wp2_with (first | ((with_reducible refine gate_callee (f := 13) rfl ?_); refine goesL_ (some 33) rfl rfl Tryd.func13 (by kernel_rfl) rfl #[.agg #[.int .i64 a0_0, .int .i64 a0_1, .int .i64 a0_2, .string a0_3, .string a0_4]] rfl (by (try simp only [List.map_toArray, List.map_cons, List.map_nil]); first | done | rfl | (simp only [List.length_drop, List.length_take]; rfl)) ?_; (with_reducible refine (ver_Check.calls a0_0 a0_1 a0_2 a0_3 a0_4 t413 _ A22.out).mono ?_); rintro e w26 ⟨rfl, hb⟩; refine ⟨_, rfl, ?_⟩; have n0_ := Aside0.mk (blk_below (g := gb403) (o := .cells #[.int .i64 a0_0, .int .i64 a0_1, .int .i64 a0_2, .string a0_3, .string a0_4] 23 (0, 0)) (by (with_reducible repeat (first | refine blk_drewN ?_ _ | refine blk_drew ?_ | refine blk_alloc ?_ _)); refine blk_far ?_ NB403_412.out _; (with_reducible repeat (first | refine blk_drewN ?_ _ | refine blk_drew ?_ | refine blk_alloc ?_ _)); refine blk_far ?_ NB403_412.out _; (with_reducible repeat (first | refine blk_drewN ?_ _ | refine blk_drew ?_ | refine blk_alloc ?_ _)); refine blk_far ?_ NB403_412.out _; (with_reducible repeat (first | refine blk_drewN ?_ _ | refine blk_drew ?_ | refine blk_alloc ?_ _)); refine blk_far ?_ NB403_412.out _; (with_reducible repeat (first | refine blk_drewN ?_ _ | refine blk_drew ?_ | refine blk_alloc ?_ _)); refine blk_far ?_ NB403_412.out _; (with_reducible repeat (first | refine blk_drewN ?_ _ | refine blk_drew ?_ | refine blk_alloc ?_ _)); exact BK403.out) hb); have n1_ := Aside0.mk (blk_below (g := gb412) (o := .cells #[.int .i64 t406, .int .i64 t407, .int .i64 t408, .string t409, .string t410] 23 (0, 0)) (by (with_reducible repeat (first | refine blk_drewN ?_ _ | refine blk_drew ?_ | refine blk_alloc ?_ _)); refine blk_put (cs := #[.int .i64 t406, .int .i64 t407, .int .i64 t408, .string t409, .string (⟨#[]⟩ : ByteArray)]) ?_ 4 _ rfl; (with_reducible repeat (first | refine blk_drewN ?_ _ | refine blk_drew ?_ | refine blk_alloc ?_ _)); refine blk_put (cs := #[.int .i64 t406, .int .i64 t407, .int .i64 t408, .string (⟨#[]⟩ : ByteArray), .string (⟨#[]⟩ : ByteArray)]) ?_ 3 _ rfl; (with_reducible repeat (first | refine blk_drewN ?_ _ | refine blk_drew ?_ | refine blk_alloc ?_ _)); refine blk_put (cs := #[.int .i64 t406, .int .i64 t407, .int .i64 0, .string (⟨#[]⟩ : ByteArray), .string (⟨#[]⟩ : ByteArray)]) ?_ 2 _ rfl; (with_reducible repeat (first | refine blk_drewN ?_ _ | refine blk_drew ?_ | refine blk_alloc ?_ _)); refine blk_put (cs := #[.int .i64 t406, .int .i64 0, .int .i64 0, .string (⟨#[]⟩ : ByteArray), .string (⟨#[]⟩ : ByteArray)]) ?_ 1 _ rfl; (with_reducible repeat (first | refine blk_drewN ?_ _ | refine blk_drew ?_ | refine blk_alloc ?_ _)); refine blk_put (cs := #[.int .i64 0, .int .i64 0, .int .i64 0, .string (⟨#[]⟩ : ByteArray), .string (⟨#[]⟩ : ByteArray)]) ?_ 0 _ rfl; (with_reducible repeat (first | refine blk_drewN ?_ _ | refine blk_drew ?_ | refine blk_alloc ?_ _)); exact BK412.out) hb); have n2_ := Aside0.mk (below_step (by repeat (first | (with_reducible first | exact HB.out | apply below_alloc | apply pw_below_drewN | apply below_drew1 | refine below_set ?_ GE403.out | refine below_set ?_ GE412.out) | exact HB.out)) hb); clear BK403; clear BK412; clear HB; have BK403 := n0_; have BK412 := n1_; have HB := n2_; clear n0_ n1_ n2_; (try clear hb); (try clear hb2); (try clear hk); (try clear hi)))
            go_meet
            case rel => exact ⟨_, (true), (by first | rfl | (simp; done) | (simp [*]; done)), H', ⟨by have := HJ2.out; first | omega | exact Nat.le_refl _⟩, ⟨by (with_reducible repeat (first | refine blk_drewN ?_ _ | refine blk_drew ?_ | refine blk_alloc ?_ _)); exact BK403.out⟩, ⟨by (with_reducible repeat (first | refine blk_drewN ?_ _ | refine blk_drew ?_ | refine blk_alloc ?_ _)); exact BK412.out⟩, ⟨by repeat (first | (with_reducible first | exact HB.out | apply below_alloc | apply pw_below_drewN | apply below_drew1 | refine below_set ?_ GE403.out | refine below_set ?_ GE412.out) | exact HB.out)⟩⟩
          · rw [if_neg c23] at H
            have c23b0 : (t411 != t413) = false := by simpa using c23
            (try (have c23b1 : decide (t411 = t413) = true := by simpa using c23))
            (try (have c23b2 : (t411 == t413) = true := by simpa using c23))
            clear c23
            (first | rw [c23b0] | (simp only [i64_w, i32_w]; rw [c23b0]) | skip)
            by_cases c27 : t411 = true
            · subst c27
              have H1 : (armadalaw07_VerBack.j1 kj2 a1 (!(t406 == a0_0) || (!(t407 == a0_1) || (!(t408 == a0_2) || (!(t409.toList == a0_3.toList) || (!(t410.toList == a0_4.toList))))))) = some true := by rw [if_pos rfl] at H; exact H
              clear H
              have H := H1
              clear H1
              have H' := Aside0.mk H
              clear H
              have hnb28 := NB403_412.out
              have hnc28 := NB412_403.out
              have hcz29_0 : w19.cell? ⟨gb403, 0, none⟩ = some (.int .i64 a0_0) := (blk_cell BK403.out 0).trans rfl
              have hcz29_1 : w19.cell? ⟨gb403, 1, none⟩ = some (.int .i64 a0_1) := (blk_cell BK403.out 1).trans rfl
              have hcz29_2 : w19.cell? ⟨gb403, 2, none⟩ = some (.int .i64 a0_2) := (blk_cell BK403.out 2).trans rfl
              have hcz29_3 : w19.cell? ⟨gb403, 3, none⟩ = some (.string a0_3) := (blk_cell BK403.out 3).trans rfl
              have hcz29_4 : w19.cell? ⟨gb403, 4, none⟩ = some (.string a0_4) := (blk_cell BK403.out 4).trans rfl
              have hfz29_0 := blk_frozen BK403.out 0
              have hfz29_1 := blk_frozen BK403.out 1
              have hfz29_2 := blk_frozen BK403.out 2
              have hfz29_3 := blk_frozen BK403.out 3
              have hfz29_4 := blk_frozen BK403.out 4
              go_wp2_with (first | ((with_reducible refine gate_callee (f := 13) rfl ?_); refine goesL_ (some 33) rfl rfl Tryd.func13 (by kernel_rfl) rfl #[.agg #[.int .i64 a0_0, .int .i64 a0_1, .int .i64 a0_2, .string a0_3, .string a0_4]] rfl (by (try simp only [List.map_toArray, List.map_cons, List.map_nil]); first | done | rfl | (simp only [List.length_drop, List.length_take]; rfl)) ?_; (with_reducible refine (ver_Check.calls a0_0 a0_1 a0_2 a0_3 a0_4 t413 _ A22.out).mono ?_); rintro e w30 ⟨rfl, hb⟩; refine ⟨_, rfl, ?_⟩; have n0_ := Aside0.mk (blk_below (g := gb403) (o := .cells #[.int .i64 a0_0, .int .i64 a0_1, .int .i64 a0_2, .string a0_3, .string a0_4] 23 (0, 0)) (by (with_reducible repeat (first | refine blk_drewN ?_ _ | refine blk_drew ?_ | refine blk_alloc ?_ _)); refine blk_far ?_ NB403_412.out _; (with_reducible repeat (first | refine blk_drewN ?_ _ | refine blk_drew ?_ | refine blk_alloc ?_ _)); refine blk_far ?_ NB403_412.out _; (with_reducible repeat (first | refine blk_drewN ?_ _ | refine blk_drew ?_ | refine blk_alloc ?_ _)); refine blk_far ?_ NB403_412.out _; (with_reducible repeat (first | refine blk_drewN ?_ _ | refine blk_drew ?_ | refine blk_alloc ?_ _)); refine blk_far ?_ NB403_412.out _; (with_reducible repeat (first | refine blk_drewN ?_ _ | refine blk_drew ?_ | refine blk_alloc ?_ _)); refine blk_far ?_ NB403_412.out _; (with_reducible repeat (first | refine blk_drewN ?_ _ | refine blk_drew ?_ | refine blk_alloc ?_ _)); exact BK403.out) hb); have n1_ := Aside0.mk (blk_below (g := gb412) (o := .cells #[.int .i64 t406, .int .i64 t407, .int .i64 t408, .string t409, .string t410] 23 (0, 0)) (by (with_reducible repeat (first | refine blk_drewN ?_ _ | refine blk_drew ?_ | refine blk_alloc ?_ _)); refine blk_put (cs := #[.int .i64 t406, .int .i64 t407, .int .i64 t408, .string t409, .string (⟨#[]⟩ : ByteArray)]) ?_ 4 _ rfl; (with_reducible repeat (first | refine blk_drewN ?_ _ | refine blk_drew ?_ | refine blk_alloc ?_ _)); refine blk_put (cs := #[.int .i64 t406, .int .i64 t407, .int .i64 t408, .string (⟨#[]⟩ : ByteArray), .string (⟨#[]⟩ : ByteArray)]) ?_ 3 _ rfl; (with_reducible repeat (first | refine blk_drewN ?_ _ | refine blk_drew ?_ | refine blk_alloc ?_ _)); refine blk_put (cs := #[.int .i64 t406, .int .i64 t407, .int .i64 0, .string (⟨#[]⟩ : ByteArray), .string (⟨#[]⟩ : ByteArray)]) ?_ 2 _ rfl; (with_reducible repeat (first | refine blk_drewN ?_ _ | refine blk_drew ?_ | refine blk_alloc ?_ _)); refine blk_put (cs := #[.int .i64 t406, .int .i64 0, .int .i64 0, .string (⟨#[]⟩ : ByteArray), .string (⟨#[]⟩ : ByteArray)]) ?_ 1 _ rfl; (with_reducible repeat (first | refine blk_drewN ?_ _ | refine blk_drew ?_ | refine blk_alloc ?_ _)); refine blk_put (cs := #[.int .i64 0, .int .i64 0, .int .i64 0, .string (⟨#[]⟩ : ByteArray), .string (⟨#[]⟩ : ByteArray)]) ?_ 0 _ rfl; (with_reducible repeat (first | refine blk_drewN ?_ _ | refine blk_drew ?_ | refine blk_alloc ?_ _)); exact BK412.out) hb); have n2_ := Aside0.mk (below_step (by repeat (first | (with_reducible first | exact HB.out | apply below_alloc | apply pw_below_drewN | apply below_drew1 | refine below_set ?_ GE403.out | refine below_set ?_ GE412.out) | exact HB.out)) hb); clear BK403; clear BK412; clear HB; have BK403 := n0_; have BK412 := n1_; have HB := n2_; clear n0_ n1_ n2_; (try clear hb); (try clear hb2); (try clear hk); (try clear hi); have hcz31_0 : w30.cell? ⟨gb412, 0, none⟩ = some (.int .i64 t406) := (blk_cell BK412.out 0).trans rfl; have hcz31_1 : w30.cell? ⟨gb412, 1, none⟩ = some (.int .i64 t407) := (blk_cell BK412.out 1).trans rfl; have hcz31_2 : w30.cell? ⟨gb412, 2, none⟩ = some (.int .i64 t408) := (blk_cell BK412.out 2).trans rfl; have hcz31_3 : w30.cell? ⟨gb412, 3, none⟩ = some (.string t409) := (blk_cell BK412.out 3).trans rfl; have hcz31_4 : w30.cell? ⟨gb412, 4, none⟩ = some (.string t410) := (blk_cell BK412.out 4).trans rfl; have hfz31_0 := blk_frozen BK412.out 0; have hfz31_1 := blk_frozen BK412.out 1; have hfz31_2 := blk_frozen BK412.out 2; have hfz31_3 := blk_frozen BK412.out 3; have hfz31_4 := blk_frozen BK412.out 4; have hcz32_0 : w30.cell? ⟨gb403, 0, none⟩ = some (.int .i64 a0_0) := (blk_cell BK403.out 0).trans rfl; have hcz32_1 : w30.cell? ⟨gb403, 1, none⟩ = some (.int .i64 a0_1) := (blk_cell BK403.out 1).trans rfl; have hcz32_2 : w30.cell? ⟨gb403, 2, none⟩ = some (.int .i64 a0_2) := (blk_cell BK403.out 2).trans rfl; have hcz32_3 : w30.cell? ⟨gb403, 3, none⟩ = some (.string a0_3) := (blk_cell BK403.out 3).trans rfl; have hcz32_4 : w30.cell? ⟨gb403, 4, none⟩ = some (.string a0_4) := (blk_cell BK403.out 4).trans rfl; have hfz32_0 := blk_frozen BK403.out 0; have hfz32_1 := blk_frozen BK403.out 1; have hfz32_2 := blk_frozen BK403.out 2; have hfz32_3 := blk_frozen BK403.out 3; have hfz32_4 := blk_frozen BK403.out 4))
              go_meet
              case rel => exact ⟨_, ((!(t406 == a0_0) || (!(t407 == a0_1) || (!(t408 == a0_2) || (!(t409.toList == a0_3.toList) || (!(t410.toList == a0_4.toList))))))), (by first | rfl | (simp; done) | (simp [*]; done)), H', ⟨by have := HJ2.out; first | omega | exact Nat.le_refl _⟩, ⟨by (with_reducible repeat (first | refine blk_drewN ?_ _ | refine blk_drew ?_ | refine blk_alloc ?_ _)); exact BK403.out⟩, ⟨by (with_reducible repeat (first | refine blk_drewN ?_ _ | refine blk_drew ?_ | refine blk_alloc ?_ _)); exact BK412.out⟩, ⟨by repeat (first | (with_reducible first | exact HB.out | apply below_alloc | apply pw_below_drewN | apply below_drew1 | refine below_set ?_ GE403.out | refine below_set ?_ GE412.out) | exact HB.out)⟩⟩
            · replace c27 := Bool.eq_false_iff.mpr c27
              subst c27
              have H1 : (armadalaw07_VerBack.j1 kj2 a1 false) = some true := by rw [if_neg (show ¬ (false = true) by decide)] at H; exact H
              clear H
              have H := H1
              clear H1
              have H' := Aside0.mk H
              clear H
              have hnb33 := NB403_412.out
              have hnc33 := NB412_403.out
              have hcz34_0 : w19.cell? ⟨gb403, 0, none⟩ = some (.int .i64 a0_0) := (blk_cell BK403.out 0).trans rfl
              have hcz34_1 : w19.cell? ⟨gb403, 1, none⟩ = some (.int .i64 a0_1) := (blk_cell BK403.out 1).trans rfl
              have hcz34_2 : w19.cell? ⟨gb403, 2, none⟩ = some (.int .i64 a0_2) := (blk_cell BK403.out 2).trans rfl
              have hcz34_3 : w19.cell? ⟨gb403, 3, none⟩ = some (.string a0_3) := (blk_cell BK403.out 3).trans rfl
              have hcz34_4 : w19.cell? ⟨gb403, 4, none⟩ = some (.string a0_4) := (blk_cell BK403.out 4).trans rfl
              have hfz34_0 := blk_frozen BK403.out 0
              have hfz34_1 := blk_frozen BK403.out 1
              have hfz34_2 := blk_frozen BK403.out 2
              have hfz34_3 := blk_frozen BK403.out 3
              have hfz34_4 := blk_frozen BK403.out 4
              go_wp2_with (first | ((with_reducible refine gate_callee (f := 13) rfl ?_); refine goesL_ (some 33) rfl rfl Tryd.func13 (by kernel_rfl) rfl #[.agg #[.int .i64 a0_0, .int .i64 a0_1, .int .i64 a0_2, .string a0_3, .string a0_4]] rfl (by (try simp only [List.map_toArray, List.map_cons, List.map_nil]); first | done | rfl | (simp only [List.length_drop, List.length_take]; rfl)) ?_; (with_reducible refine (ver_Check.calls a0_0 a0_1 a0_2 a0_3 a0_4 t413 _ A22.out).mono ?_); rintro e w35 ⟨rfl, hb⟩; refine ⟨_, rfl, ?_⟩; have n0_ := Aside0.mk (blk_below (g := gb403) (o := .cells #[.int .i64 a0_0, .int .i64 a0_1, .int .i64 a0_2, .string a0_3, .string a0_4] 23 (0, 0)) (by (with_reducible repeat (first | refine blk_drewN ?_ _ | refine blk_drew ?_ | refine blk_alloc ?_ _)); refine blk_far ?_ NB403_412.out _; (with_reducible repeat (first | refine blk_drewN ?_ _ | refine blk_drew ?_ | refine blk_alloc ?_ _)); refine blk_far ?_ NB403_412.out _; (with_reducible repeat (first | refine blk_drewN ?_ _ | refine blk_drew ?_ | refine blk_alloc ?_ _)); refine blk_far ?_ NB403_412.out _; (with_reducible repeat (first | refine blk_drewN ?_ _ | refine blk_drew ?_ | refine blk_alloc ?_ _)); refine blk_far ?_ NB403_412.out _; (with_reducible repeat (first | refine blk_drewN ?_ _ | refine blk_drew ?_ | refine blk_alloc ?_ _)); refine blk_far ?_ NB403_412.out _; (with_reducible repeat (first | refine blk_drewN ?_ _ | refine blk_drew ?_ | refine blk_alloc ?_ _)); exact BK403.out) hb); have n1_ := Aside0.mk (blk_below (g := gb412) (o := .cells #[.int .i64 t406, .int .i64 t407, .int .i64 t408, .string t409, .string t410] 23 (0, 0)) (by (with_reducible repeat (first | refine blk_drewN ?_ _ | refine blk_drew ?_ | refine blk_alloc ?_ _)); refine blk_put (cs := #[.int .i64 t406, .int .i64 t407, .int .i64 t408, .string t409, .string (⟨#[]⟩ : ByteArray)]) ?_ 4 _ rfl; (with_reducible repeat (first | refine blk_drewN ?_ _ | refine blk_drew ?_ | refine blk_alloc ?_ _)); refine blk_put (cs := #[.int .i64 t406, .int .i64 t407, .int .i64 t408, .string (⟨#[]⟩ : ByteArray), .string (⟨#[]⟩ : ByteArray)]) ?_ 3 _ rfl; (with_reducible repeat (first | refine blk_drewN ?_ _ | refine blk_drew ?_ | refine blk_alloc ?_ _)); refine blk_put (cs := #[.int .i64 t406, .int .i64 t407, .int .i64 0, .string (⟨#[]⟩ : ByteArray), .string (⟨#[]⟩ : ByteArray)]) ?_ 2 _ rfl; (with_reducible repeat (first | refine blk_drewN ?_ _ | refine blk_drew ?_ | refine blk_alloc ?_ _)); refine blk_put (cs := #[.int .i64 t406, .int .i64 0, .int .i64 0, .string (⟨#[]⟩ : ByteArray), .string (⟨#[]⟩ : ByteArray)]) ?_ 1 _ rfl; (with_reducible repeat (first | refine blk_drewN ?_ _ | refine blk_drew ?_ | refine blk_alloc ?_ _)); refine blk_put (cs := #[.int .i64 0, .int .i64 0, .int .i64 0, .string (⟨#[]⟩ : ByteArray), .string (⟨#[]⟩ : ByteArray)]) ?_ 0 _ rfl; (with_reducible repeat (first | refine blk_drewN ?_ _ | refine blk_drew ?_ | refine blk_alloc ?_ _)); exact BK412.out) hb); have n2_ := Aside0.mk (below_step (by repeat (first | (with_reducible first | exact HB.out | apply below_alloc | apply pw_below_drewN | apply below_drew1 | refine below_set ?_ GE403.out | refine below_set ?_ GE412.out) | exact HB.out)) hb); clear BK403; clear BK412; clear HB; have BK403 := n0_; have BK412 := n1_; have HB := n2_; clear n0_ n1_ n2_; (try clear hb); (try clear hb2); (try clear hk); (try clear hi)))
              go_meet
              case rel => exact ⟨_, (false), (by first | rfl | (simp; done) | (simp [*]; done)), H', ⟨by have := HJ2.out; first | omega | exact Nat.le_refl _⟩, ⟨by (with_reducible repeat (first | refine blk_drewN ?_ _ | refine blk_drew ?_ | refine blk_alloc ?_ _)); exact BK403.out⟩, ⟨by (with_reducible repeat (first | refine blk_drewN ?_ _ | refine blk_drew ?_ | refine blk_alloc ?_ _)); exact BK412.out⟩, ⟨by repeat (first | (with_reducible first | exact HB.out | apply below_alloc | apply pw_below_drewN | apply below_drew1 | refine below_set ?_ GE403.out | refine below_set ?_ GE412.out) | exact HB.out)⟩⟩
        case rest =>
          clear HC15
          try clear c1
          try clear c2
          try clear p2
          try clear c3
          try clear c5
          try clear c5b0
          try clear c5b1
          try clear c7
          try clear c7b0
          try clear c7b1
          try clear c10
          try clear c11
          try clear c13
          try clear c15
          try clear c20
          try clear c23
          try clear c23b0
          try clear c23b1
          try clear c23b2
          try clear c24
          try clear c27
          try clear c28
          try clear c33
          try clear hcz16_0
          try clear hcz16_1
          try clear hcz16_2
          try clear hcz16_3
          try clear hcz16_4
          try clear hcz21_0
          try clear hcz21_1
          try clear hcz21_2
          try clear hcz21_3
          try clear hcz21_4
          try clear hcz25_0
          try clear hcz25_1
          try clear hcz25_2
          try clear hcz25_3
          try clear hcz25_4
          try clear hcz29_0
          try clear hcz29_1
          try clear hcz29_2
          try clear hcz29_3
          try clear hcz29_4
          try clear hcz31_0
          try clear hcz31_1
          try clear hcz31_2
          try clear hcz31_3
          try clear hcz31_4
          try clear hcz32_0
          try clear hcz32_1
          try clear hcz32_2
          try clear hcz32_3
          try clear hcz32_4
          try clear hcz34_0
          try clear hcz34_1
          try clear hcz34_2
          try clear hcz34_3
          try clear hcz34_4
          try clear hcz6_0
          try clear hcz6_1
          try clear hcz6_2
          try clear hcz6_3
          try clear hcz6_4
          try clear hcz8_0
          try clear hcz8_1
          try clear hcz8_2
          try clear hcz8_3
          try clear hcz8_4
          try clear hcz9_0
          try clear hcz9_1
          try clear hcz9_2
          try clear hcz9_3
          try clear hcz9_4
          try clear hfz16_0
          try clear hfz16_1
          try clear hfz16_2
          try clear hfz16_3
          try clear hfz16_4
          try clear hfz21_0
          try clear hfz21_1
          try clear hfz21_2
          try clear hfz21_3
          try clear hfz21_4
          try clear hfz25_0
          try clear hfz25_1
          try clear hfz25_2
          try clear hfz25_3
          try clear hfz25_4
          try clear hfz29_0
          try clear hfz29_1
          try clear hfz29_2
          try clear hfz29_3
          try clear hfz29_4
          try clear hfz31_0
          try clear hfz31_1
          try clear hfz31_2
          try clear hfz31_3
          try clear hfz31_4
          try clear hfz32_0
          try clear hfz32_1
          try clear hfz32_2
          try clear hfz32_3
          try clear hfz32_4
          try clear hfz34_0
          try clear hfz34_1
          try clear hfz34_2
          try clear hfz34_3
          try clear hfz34_4
          try clear hfz6_0
          try clear hfz6_1
          try clear hfz6_2
          try clear hfz6_3
          try clear hfz6_4
          try clear hfz8_0
          try clear hfz8_1
          try clear hfz8_2
          try clear hfz8_3
          try clear hfz8_4
          try clear hfz9_0
          try clear hfz9_1
          try clear hfz9_2
          try clear hfz9_3
          try clear hfz9_4
          try clear p2
          obtain ⟨kq, x42_14, rfl, HA, HJ14, BK403, BK412, HB⟩ := hcut
          cases kq with
          | zero => exact absurd HA.out (by simp [armadalaw07_VerBack.j1])
          | succ kj14 =>
            have H := HA.out
            clear HA
            simp only [armadalaw07_VerBack.j1] at H
            by_cases c36 : x42_14 = true
            · subst c36
              have H1 : (some false) = some true := by rw [if_pos rfl] at H; exact H
              clear H
              have H := H1
              clear H1
              exact absurd H (by simp)
            · replace c36 := Bool.eq_false_iff.mpr c36
              subst c36
              have H1 : ((ver_Parse.f a1).bind fun bt414 => (if bt414.2.2.2.2.2 = true then ((ver_Check.f bt414.1 bt414.2.1 bt414.2.2.1 bt414.2.2.2.1 bt414.2.2.2.2.1).bind fun t421 => (if t421 = true then ((ver_Text.f bt414.1 bt414.2.1 bt414.2.2.1 bt414.2.2.2.1 bt414.2.2.2.2.1).bind fun t422 => (if t422.toList = a1.toList then ((armadalaw07_live.f kj14).bind fun t423 => (some t423)) else (some false))) else (some false))) else ((armadalaw07_live.f kj14).bind fun t424 => (some t424)))) = some true := by rw [if_neg (show ¬ (false = true) by decide)] at H; exact H
              clear H
              have H := H1
              clear H1
              replace H := Option.bind_eq_some_iff.mp H
              obtain ⟨⟨t414, t415, t416, t417, t418, t419⟩, A370, H⟩ := H
              replace H : (if t419 = true then ((ver_Check.f t414 t415 t416 t417 t418).bind fun t421 => (if t421 = true then ((ver_Text.f t414 t415 t416 t417 t418).bind fun t422 => (if t422.toList = a1.toList then ((armadalaw07_live.f kj14).bind fun t423 => (some t423)) else (some false))) else (some false))) else ((armadalaw07_live.f kj14).bind fun t424 => (some t424))) = some true := H
              have A37 := Aside0.mk A370
              clear A370
              by_cases c38 : t419 = true
              · subst c38
                have H1 : ((ver_Check.f t414 t415 t416 t417 t418).bind fun t421 => (if t421 = true then ((ver_Text.f t414 t415 t416 t417 t418).bind fun t422 => (if t422.toList = a1.toList then ((armadalaw07_live.f kj14).bind fun t423 => (some t423)) else (some false))) else (some false))) = some true := by rw [if_pos rfl] at H; exact H
                clear H
                have H := H1
                clear H1
                replace H := Option.bind_eq_some_iff.mp H
                obtain ⟨t421, A390, H⟩ := H
                replace H : (if t421 = true then ((ver_Text.f t414 t415 t416 t417 t418).bind fun t422 => (if t422.toList = a1.toList then ((armadalaw07_live.f kj14).bind fun t423 => (some t423)) else (some false))) else (some false)) = some true := H
                have A39 := Aside0.mk A390
                clear A390
                by_cases c40 : t421 = true
                · subst c40
                  have H1 : ((ver_Text.f t414 t415 t416 t417 t418).bind fun t422 => (if t422.toList = a1.toList then ((armadalaw07_live.f kj14).bind fun t423 => (some t423)) else (some false))) = some true := by rw [if_pos rfl] at H; exact H
                  clear H
                  have H := H1
                  clear H1
                  replace H := Option.bind_eq_some_iff.mp H
                  obtain ⟨t422, A410, H⟩ := H
                  replace H : (if t422.toList = a1.toList then ((armadalaw07_live.f kj14).bind fun t423 => (some t423)) else (some false)) = some true := H
                  have A41 := Aside0.mk A410
                  clear A410
                  by_cases c42 : t422.toList = a1.toList
                  · rw [if_pos c42] at H
                    have c42b0 : (t422.toList == a1.toList) = true := beq_iff_eq.mpr c42
                    have c42b1 : (t422.toList != a1.toList) = false := bne_eq_false_iff_eq.mpr c42
                    clear c42
                    replace H := Option.bind_eq_some_iff.mp H
                    obtain ⟨t423, A430, H⟩ := H
                    replace H : (some t423) = some true := H
                    have A43 := Aside0.mk A430
                    clear A430
                    obtain rfl := Option.some.inj H
                    go_wp2_with (first | ((with_reducible refine gate_callee (f := 11) rfl ?_); refine goesL_ (some 45) rfl rfl Tryd.func11 (by kernel_rfl) rfl #[.string a1] rfl (by (try simp only [List.map_toArray, List.map_cons, List.map_nil]); first | done | rfl | (simp only [List.length_drop, List.length_take]; rfl)) ?_; (with_reducible refine (ver_Parse.calls a1 t414 t415 t416 t417 t418 true _ A37.out (LW0 := LW.out.below (by repeat (first | (with_reducible first | exact HB.out | apply below_alloc | apply pw_below_drewN | apply below_drew1 | refine below_set ?_ GE403.out | refine below_set ?_ GE412.out) | exact HB.out)))).mono ?_); rintro e w44 ⟨rfl, hb⟩; refine ⟨_, rfl, ?_⟩; have n0_ := Aside0.mk (blk_below (g := gb403) (o := .cells #[.int .i64 a0_0, .int .i64 a0_1, .int .i64 a0_2, .string a0_3, .string a0_4] 23 (0, 0)) (by (with_reducible repeat (first | refine blk_drewN ?_ _ | refine blk_drew ?_ | refine blk_alloc ?_ _)); exact BK403.out) hb); have n1_ := Aside0.mk (blk_below (g := gb412) (o := .cells #[.int .i64 t406, .int .i64 t407, .int .i64 t408, .string t409, .string t410] 23 (0, 0)) (by (with_reducible repeat (first | refine blk_drewN ?_ _ | refine blk_drew ?_ | refine blk_alloc ?_ _)); exact BK412.out) hb); have n2_ := Aside0.mk (below_step (by repeat (first | (with_reducible first | exact HB.out | apply below_alloc | apply pw_below_drewN | apply below_drew1 | refine below_set ?_ GE403.out | refine below_set ?_ GE412.out) | exact HB.out)) hb); clear BK403; clear BK412; clear HB; have BK403 := n0_; have BK412 := n1_; have HB := n2_; clear n0_ n1_ n2_; (try clear hb); (try clear hb2); (try clear hk); (try clear hi)) | ((with_reducible refine gate_dst (N := 7) rfl ?_); (try (refine gate_guard (by rfl) ?_; dsimp only)); refine box_event ?hg (N := 7) ?hd (cs := #[.int .i64 0, .int .i64 0, .int .i64 0, .string (⟨#[]⟩ : ByteArray), .string (⟨#[]⟩ : ByteArray)]) (t := 23) ?hr ?_; (case hd => rfl); (case hg => rfl); (case hr => first | (go_simp; done) | (go_simp; rfl)); intro gb420 hg w45 hbox hb; have n0_ := Aside0.mk (blk_below (g := gb403) (o := .cells #[.int .i64 a0_0, .int .i64 a0_1, .int .i64 a0_2, .string a0_3, .string a0_4] 23 (0, 0)) (by (with_reducible repeat (first | refine blk_drewN ?_ _ | refine blk_drew ?_ | refine blk_alloc ?_ _)); exact BK403.out) hb); have n1_ := Aside0.mk (blk_below (g := gb412) (o := .cells #[.int .i64 t406, .int .i64 t407, .int .i64 t408, .string t409, .string t410] 23 (0, 0)) (by (with_reducible repeat (first | refine blk_drewN ?_ _ | refine blk_drew ?_ | refine blk_alloc ?_ _)); exact BK412.out) hb); have n2_ := Aside0.mk (below_step (by repeat (first | (with_reducible first | exact HB.out | apply below_alloc | apply pw_below_drewN | apply below_drew1 | refine below_set ?_ GE403.out | refine below_set ?_ GE412.out) | exact HB.out)) hb); have n3_ := Aside0.mk (hbox); have n4_ := Aside0.mk ((by rw [hg]; exact (below_size (by repeat (first | (with_reducible first | exact HB.out | apply below_alloc | apply pw_below_drewN | apply below_drew1 | refine below_set ?_ GE403.out | refine below_set ?_ GE412.out) | exact HB.out))) : w.heap.size ≤ gb420)); have n5_ := Aside0.mk ((by rw [hg]; exact (below_size (by repeat (first | (with_reducible first | exact HB.out | apply below_alloc | apply pw_below_drewN | apply below_drew1 | refine below_set ?_ GE403.out | refine below_set ?_ GE412.out) | exact HB.out))) : w.heap.size ≤ gb420)); have n6_ := Aside0.mk ((by rw [hg]; exact Nat.ne_of_lt (blk_lt (g := gb403) (o := .cells #[.int .i64 a0_0, .int .i64 a0_1, .int .i64 a0_2, .string a0_3, .string a0_4] 23 (0, 0)) (by (with_reducible repeat (first | refine blk_drewN ?_ _ | refine blk_drew ?_ | refine blk_alloc ?_ _)); exact BK403.out)) : gb403 ≠ gb420)); have n7_ := Aside0.mk ((by rw [hg]; exact Nat.ne_of_gt (blk_lt (g := gb403) (o := .cells #[.int .i64 a0_0, .int .i64 a0_1, .int .i64 a0_2, .string a0_3, .string a0_4] 23 (0, 0)) (by (with_reducible repeat (first | refine blk_drewN ?_ _ | refine blk_drew ?_ | refine blk_alloc ?_ _)); exact BK403.out)) : gb420 ≠ gb403)); have n8_ := Aside0.mk ((by rw [hg]; exact Nat.ne_of_lt (blk_lt (g := gb412) (o := .cells #[.int .i64 t406, .int .i64 t407, .int .i64 t408, .string t409, .string t410] 23 (0, 0)) (by (with_reducible repeat (first | refine blk_drewN ?_ _ | refine blk_drew ?_ | refine blk_alloc ?_ _)); exact BK412.out)) : gb412 ≠ gb420)); have n9_ := Aside0.mk ((by rw [hg]; exact Nat.ne_of_gt (blk_lt (g := gb412) (o := .cells #[.int .i64 t406, .int .i64 t407, .int .i64 t408, .string t409, .string t410] 23 (0, 0)) (by (with_reducible repeat (first | refine blk_drewN ?_ _ | refine blk_drew ?_ | refine blk_alloc ?_ _)); exact BK412.out)) : gb420 ≠ gb412)); clear BK403; clear BK412; clear HB; have BK403 := n0_; have BK412 := n1_; have HB := n2_; have BK420 := n3_; have GW420 := n4_; have GE420 := n5_; have NB403_420 := n6_; have NB420_403 := n7_; have NB412_420 := n8_; have NB420_412 := n9_; clear n0_ n1_ n2_ n3_ n4_ n5_ n6_ n7_ n8_ n9_; clear hb hbox hg; have hnb46 := NB420_403.out; have hnc46 := NB403_420.out; have hnb47 := NB420_412.out; have hnc47 := NB412_420.out; have hcz48_0 : w45.cell? ⟨gb420, 0, none⟩ = some (.int .i64 0) := (blk_cell BK420.out 0).trans rfl; have hcz48_1 : w45.cell? ⟨gb420, 1, none⟩ = some (.int .i64 0) := (blk_cell BK420.out 1).trans rfl; have hcz48_2 : w45.cell? ⟨gb420, 2, none⟩ = some (.int .i64 0) := (blk_cell BK420.out 2).trans rfl; have hcz48_3 : w45.cell? ⟨gb420, 3, none⟩ = some (.string (⟨#[]⟩ : ByteArray)) := (blk_cell BK420.out 3).trans rfl; have hcz48_4 : w45.cell? ⟨gb420, 4, none⟩ = some (.string (⟨#[]⟩ : ByteArray)) := (blk_cell BK420.out 4).trans rfl; have hfz48_0 := blk_frozen BK420.out 0; have hfz48_1 := blk_frozen BK420.out 1; have hfz48_2 := blk_frozen BK420.out 2; have hfz48_3 := blk_frozen BK420.out 3; have hfz48_4 := blk_frozen BK420.out 4) | (go_at_call 13; (with_reducible refine (ver_Check.calls t414 t415 t416 t417 t418 true _ A39.out).mono ?_); rintro e w49 ⟨rfl, hb⟩; have n0_ := Aside0.mk (blk_below (g := gb403) (o := .cells #[.int .i64 a0_0, .int .i64 a0_1, .int .i64 a0_2, .string a0_3, .string a0_4] 23 (0, 0)) (by (with_reducible repeat (first | refine blk_drewN ?_ _ | refine blk_drew ?_ | refine blk_alloc ?_ _)); refine blk_far ?_ NB403_420.out _; (with_reducible repeat (first | refine blk_drewN ?_ _ | refine blk_drew ?_ | refine blk_alloc ?_ _)); refine blk_far ?_ NB403_420.out _; (with_reducible repeat (first | refine blk_drewN ?_ _ | refine blk_drew ?_ | refine blk_alloc ?_ _)); refine blk_far ?_ NB403_420.out _; (with_reducible repeat (first | refine blk_drewN ?_ _ | refine blk_drew ?_ | refine blk_alloc ?_ _)); refine blk_far ?_ NB403_420.out _; (with_reducible repeat (first | refine blk_drewN ?_ _ | refine blk_drew ?_ | refine blk_alloc ?_ _)); refine blk_far ?_ NB403_420.out _; (with_reducible repeat (first | refine blk_drewN ?_ _ | refine blk_drew ?_ | refine blk_alloc ?_ _)); exact BK403.out) hb); have n1_ := Aside0.mk (blk_below (g := gb412) (o := .cells #[.int .i64 t406, .int .i64 t407, .int .i64 t408, .string t409, .string t410] 23 (0, 0)) (by (with_reducible repeat (first | refine blk_drewN ?_ _ | refine blk_drew ?_ | refine blk_alloc ?_ _)); refine blk_far ?_ NB412_420.out _; (with_reducible repeat (first | refine blk_drewN ?_ _ | refine blk_drew ?_ | refine blk_alloc ?_ _)); refine blk_far ?_ NB412_420.out _; (with_reducible repeat (first | refine blk_drewN ?_ _ | refine blk_drew ?_ | refine blk_alloc ?_ _)); refine blk_far ?_ NB412_420.out _; (with_reducible repeat (first | refine blk_drewN ?_ _ | refine blk_drew ?_ | refine blk_alloc ?_ _)); refine blk_far ?_ NB412_420.out _; (with_reducible repeat (first | refine blk_drewN ?_ _ | refine blk_drew ?_ | refine blk_alloc ?_ _)); refine blk_far ?_ NB412_420.out _; (with_reducible repeat (first | refine blk_drewN ?_ _ | refine blk_drew ?_ | refine blk_alloc ?_ _)); exact BK412.out) hb); have n2_ := Aside0.mk (blk_below (g := gb420) (o := .cells #[.int .i64 t414, .int .i64 t415, .int .i64 t416, .string t417, .string t418] 23 (0, 0)) (by (with_reducible repeat (first | refine blk_drewN ?_ _ | refine blk_drew ?_ | refine blk_alloc ?_ _)); refine blk_put (cs := #[.int .i64 t414, .int .i64 t415, .int .i64 t416, .string t417, .string (⟨#[]⟩ : ByteArray)]) ?_ 4 _ rfl; (with_reducible repeat (first | refine blk_drewN ?_ _ | refine blk_drew ?_ | refine blk_alloc ?_ _)); refine blk_put (cs := #[.int .i64 t414, .int .i64 t415, .int .i64 t416, .string (⟨#[]⟩ : ByteArray), .string (⟨#[]⟩ : ByteArray)]) ?_ 3 _ rfl; (with_reducible repeat (first | refine blk_drewN ?_ _ | refine blk_drew ?_ | refine blk_alloc ?_ _)); refine blk_put (cs := #[.int .i64 t414, .int .i64 t415, .int .i64 0, .string (⟨#[]⟩ : ByteArray), .string (⟨#[]⟩ : ByteArray)]) ?_ 2 _ rfl; (with_reducible repeat (first | refine blk_drewN ?_ _ | refine blk_drew ?_ | refine blk_alloc ?_ _)); refine blk_put (cs := #[.int .i64 t414, .int .i64 0, .int .i64 0, .string (⟨#[]⟩ : ByteArray), .string (⟨#[]⟩ : ByteArray)]) ?_ 1 _ rfl; (with_reducible repeat (first | refine blk_drewN ?_ _ | refine blk_drew ?_ | refine blk_alloc ?_ _)); refine blk_put (cs := #[.int .i64 0, .int .i64 0, .int .i64 0, .string (⟨#[]⟩ : ByteArray), .string (⟨#[]⟩ : ByteArray)]) ?_ 0 _ rfl; (with_reducible repeat (first | refine blk_drewN ?_ _ | refine blk_drew ?_ | refine blk_alloc ?_ _)); exact BK420.out) hb); have n3_ := Aside0.mk (below_step (by repeat (first | (with_reducible first | exact HB.out | apply below_alloc | apply pw_below_drewN | apply below_drew1 | refine below_set ?_ GE403.out | refine below_set ?_ GE412.out | refine below_set ?_ GE420.out) | exact HB.out)) hb); clear BK403; clear BK412; clear BK420; clear HB; have BK403 := n0_; have BK412 := n1_; have BK420 := n2_; have HB := n3_; clear n0_ n1_ n2_ n3_; (try clear hb); (try clear hb2); (try clear hk); (try clear hi); have hcz50_0 : w49.cell? ⟨gb420, 0, none⟩ = some (.int .i64 t414) := (blk_cell BK420.out 0).trans rfl; have hcz50_1 : w49.cell? ⟨gb420, 1, none⟩ = some (.int .i64 t415) := (blk_cell BK420.out 1).trans rfl; have hcz50_2 : w49.cell? ⟨gb420, 2, none⟩ = some (.int .i64 t416) := (blk_cell BK420.out 2).trans rfl; have hcz50_3 : w49.cell? ⟨gb420, 3, none⟩ = some (.string t417) := (blk_cell BK420.out 3).trans rfl; have hcz50_4 : w49.cell? ⟨gb420, 4, none⟩ = some (.string t418) := (blk_cell BK420.out 4).trans rfl; have hfz50_0 := blk_frozen BK420.out 0; have hfz50_1 := blk_frozen BK420.out 1; have hfz50_2 := blk_frozen BK420.out 2; have hfz50_3 := blk_frozen BK420.out 3; have hfz50_4 := blk_frozen BK420.out 4) | (go_at_call 15; (with_reducible refine (ver_Text.calls t414 t415 t416 t417 t418 t422 _ A41.out (LW0 := LW.out.below (by repeat (first | (with_reducible first | exact HB.out | apply below_alloc | apply pw_below_drewN | apply below_drew1 | refine below_set ?_ GE403.out | refine below_set ?_ GE412.out | refine below_set ?_ GE420.out) | exact HB.out)))).mono ?_); rintro e w51 ⟨rfl, hb⟩; have n0_ := Aside0.mk (blk_below (g := gb403) (o := .cells #[.int .i64 a0_0, .int .i64 a0_1, .int .i64 a0_2, .string a0_3, .string a0_4] 23 (0, 0)) (by (with_reducible repeat (first | refine blk_drewN ?_ _ | refine blk_drew ?_ | refine blk_alloc ?_ _)); exact BK403.out) hb); have n1_ := Aside0.mk (blk_below (g := gb412) (o := .cells #[.int .i64 t406, .int .i64 t407, .int .i64 t408, .string t409, .string t410] 23 (0, 0)) (by (with_reducible repeat (first | refine blk_drewN ?_ _ | refine blk_drew ?_ | refine blk_alloc ?_ _)); exact BK412.out) hb); have n2_ := Aside0.mk (blk_below (g := gb420) (o := .cells #[.int .i64 t414, .int .i64 t415, .int .i64 t416, .string t417, .string t418] 23 (0, 0)) (by (with_reducible repeat (first | refine blk_drewN ?_ _ | refine blk_drew ?_ | refine blk_alloc ?_ _)); exact BK420.out) hb); have n3_ := Aside0.mk (below_step (by repeat (first | (with_reducible first | exact HB.out | apply below_alloc | apply pw_below_drewN | apply below_drew1 | refine below_set ?_ GE403.out | refine below_set ?_ GE412.out | refine below_set ?_ GE420.out) | exact HB.out)) hb); clear BK403; clear BK412; clear BK420; clear HB; have BK403 := n0_; have BK412 := n1_; have BK420 := n2_; have HB := n3_; clear n0_ n1_ n2_ n3_; (try clear hb); (try clear hb2); (try clear hk); (try clear hi)) | (go_at_call 10; (with_reducible refine (armadalaw07_live.calls kj14  true _ A43.out (LW0 := LW.out.below (by repeat (first | (with_reducible first | exact HB.out | apply below_alloc | apply pw_below_drewN | apply below_drew1 | refine below_set ?_ GE403.out | refine below_set ?_ GE412.out | refine below_set ?_ GE420.out) | exact HB.out)))).mono ?_); rintro e w52 ⟨rfl, hb⟩; have n0_ := Aside0.mk (blk_below (g := gb403) (o := .cells #[.int .i64 a0_0, .int .i64 a0_1, .int .i64 a0_2, .string a0_3, .string a0_4] 23 (0, 0)) (by (with_reducible repeat (first | refine blk_drewN ?_ _ | refine blk_drew ?_ | refine blk_alloc ?_ _)); exact BK403.out) hb); have n1_ := Aside0.mk (blk_below (g := gb412) (o := .cells #[.int .i64 t406, .int .i64 t407, .int .i64 t408, .string t409, .string t410] 23 (0, 0)) (by (with_reducible repeat (first | refine blk_drewN ?_ _ | refine blk_drew ?_ | refine blk_alloc ?_ _)); exact BK412.out) hb); have n2_ := Aside0.mk (blk_below (g := gb420) (o := .cells #[.int .i64 t414, .int .i64 t415, .int .i64 t416, .string t417, .string t418] 23 (0, 0)) (by (with_reducible repeat (first | refine blk_drewN ?_ _ | refine blk_drew ?_ | refine blk_alloc ?_ _)); exact BK420.out) hb); have n3_ := Aside0.mk (below_step (by repeat (first | (with_reducible first | exact HB.out | apply below_alloc | apply pw_below_drewN | apply below_drew1 | refine below_set ?_ GE403.out | refine below_set ?_ GE412.out | refine below_set ?_ GE420.out) | exact HB.out)) hb); clear BK403; clear BK412; clear BK420; clear HB; have BK403 := n0_; have BK412 := n1_; have BK420 := n2_; have HB := n3_; clear n0_ n1_ n2_ n3_; (try clear hb); (try clear hb2); (try clear hk); (try clear hi)))
                    go_ret
                    exact ⟨by first | rfl | (simp [errW_none, errW_some] <;> rfl) | (simp [*, errW_none, errW_some] <;> rfl), by repeat (first | (with_reducible first | exact HB.out | apply below_alloc | apply pw_below_drewN | apply below_drew1 | refine below_set ?_ GE403.out | refine below_set ?_ GE412.out | refine below_set ?_ GE420.out) | exact HB.out)⟩
                  · rw [if_neg c42] at H
                    have c42b0 : (t422.toList == a1.toList) = false := beq_eq_false_iff_ne.mpr c42
                    have c42b1 : (t422.toList != a1.toList) = true := bne_iff_ne.mpr c42
                    exact absurd H (by simp)
                · replace c40 := Bool.eq_false_iff.mpr c40
                  subst c40
                  have H1 : (some false) = some true := by rw [if_neg (show ¬ (false = true) by decide)] at H; exact H
                  clear H
                  have H := H1
                  clear H1
                  exact absurd H (by simp)
              · replace c38 := Bool.eq_false_iff.mpr c38
                subst c38
                have H1 : ((armadalaw07_live.f kj14).bind fun t424 => (some t424)) = some true := by rw [if_neg (show ¬ (false = true) by decide)] at H; exact H
                clear H
                have H := H1
                clear H1
                replace H := Option.bind_eq_some_iff.mp H
                obtain ⟨t424, A530, H⟩ := H
                replace H : (some t424) = some true := H
                have A53 := Aside0.mk A530
                clear A530
                obtain rfl := Option.some.inj H
                go_wp2_with (first | ((with_reducible refine gate_callee (f := 11) rfl ?_); refine goesL_ (some 45) rfl rfl Tryd.func11 (by kernel_rfl) rfl #[.string a1] rfl (by (try simp only [List.map_toArray, List.map_cons, List.map_nil]); first | done | rfl | (simp only [List.length_drop, List.length_take]; rfl)) ?_; (with_reducible refine (ver_Parse.calls a1 t414 t415 t416 t417 t418 false _ A37.out (LW0 := LW.out.below (by repeat (first | (with_reducible first | exact HB.out | apply below_alloc | apply pw_below_drewN | apply below_drew1 | refine below_set ?_ GE403.out | refine below_set ?_ GE412.out) | exact HB.out)))).mono ?_); rintro e w54 ⟨rfl, hb⟩; refine ⟨_, rfl, ?_⟩; have n0_ := Aside0.mk (blk_below (g := gb403) (o := .cells #[.int .i64 a0_0, .int .i64 a0_1, .int .i64 a0_2, .string a0_3, .string a0_4] 23 (0, 0)) (by (with_reducible repeat (first | refine blk_drewN ?_ _ | refine blk_drew ?_ | refine blk_alloc ?_ _)); exact BK403.out) hb); have n1_ := Aside0.mk (blk_below (g := gb412) (o := .cells #[.int .i64 t406, .int .i64 t407, .int .i64 t408, .string t409, .string t410] 23 (0, 0)) (by (with_reducible repeat (first | refine blk_drewN ?_ _ | refine blk_drew ?_ | refine blk_alloc ?_ _)); exact BK412.out) hb); have n2_ := Aside0.mk (below_step (by repeat (first | (with_reducible first | exact HB.out | apply below_alloc | apply pw_below_drewN | apply below_drew1 | refine below_set ?_ GE403.out | refine below_set ?_ GE412.out) | exact HB.out)) hb); clear BK403; clear BK412; clear HB; have BK403 := n0_; have BK412 := n1_; have HB := n2_; clear n0_ n1_ n2_; (try clear hb); (try clear hb2); (try clear hk); (try clear hi)) | ((with_reducible refine gate_dst (N := 7) rfl ?_); (try (refine gate_guard (by rfl) ?_; dsimp only)); refine box_event ?hg (N := 7) ?hd (cs := #[.int .i64 0, .int .i64 0, .int .i64 0, .string (⟨#[]⟩ : ByteArray), .string (⟨#[]⟩ : ByteArray)]) (t := 23) ?hr ?_; (case hd => rfl); (case hg => rfl); (case hr => first | (go_simp; done) | (go_simp; rfl)); intro gb420 hg w55 hbox hb; have n0_ := Aside0.mk (blk_below (g := gb403) (o := .cells #[.int .i64 a0_0, .int .i64 a0_1, .int .i64 a0_2, .string a0_3, .string a0_4] 23 (0, 0)) (by (with_reducible repeat (first | refine blk_drewN ?_ _ | refine blk_drew ?_ | refine blk_alloc ?_ _)); exact BK403.out) hb); have n1_ := Aside0.mk (blk_below (g := gb412) (o := .cells #[.int .i64 t406, .int .i64 t407, .int .i64 t408, .string t409, .string t410] 23 (0, 0)) (by (with_reducible repeat (first | refine blk_drewN ?_ _ | refine blk_drew ?_ | refine blk_alloc ?_ _)); exact BK412.out) hb); have n2_ := Aside0.mk (below_step (by repeat (first | (with_reducible first | exact HB.out | apply below_alloc | apply pw_below_drewN | apply below_drew1 | refine below_set ?_ GE403.out | refine below_set ?_ GE412.out) | exact HB.out)) hb); have n3_ := Aside0.mk (hbox); have n4_ := Aside0.mk ((by rw [hg]; exact (below_size (by repeat (first | (with_reducible first | exact HB.out | apply below_alloc | apply pw_below_drewN | apply below_drew1 | refine below_set ?_ GE403.out | refine below_set ?_ GE412.out) | exact HB.out))) : w.heap.size ≤ gb420)); have n5_ := Aside0.mk ((by rw [hg]; exact (below_size (by repeat (first | (with_reducible first | exact HB.out | apply below_alloc | apply pw_below_drewN | apply below_drew1 | refine below_set ?_ GE403.out | refine below_set ?_ GE412.out) | exact HB.out))) : w.heap.size ≤ gb420)); have n6_ := Aside0.mk ((by rw [hg]; exact Nat.ne_of_lt (blk_lt (g := gb403) (o := .cells #[.int .i64 a0_0, .int .i64 a0_1, .int .i64 a0_2, .string a0_3, .string a0_4] 23 (0, 0)) (by (with_reducible repeat (first | refine blk_drewN ?_ _ | refine blk_drew ?_ | refine blk_alloc ?_ _)); exact BK403.out)) : gb403 ≠ gb420)); have n7_ := Aside0.mk ((by rw [hg]; exact Nat.ne_of_gt (blk_lt (g := gb403) (o := .cells #[.int .i64 a0_0, .int .i64 a0_1, .int .i64 a0_2, .string a0_3, .string a0_4] 23 (0, 0)) (by (with_reducible repeat (first | refine blk_drewN ?_ _ | refine blk_drew ?_ | refine blk_alloc ?_ _)); exact BK403.out)) : gb420 ≠ gb403)); have n8_ := Aside0.mk ((by rw [hg]; exact Nat.ne_of_lt (blk_lt (g := gb412) (o := .cells #[.int .i64 t406, .int .i64 t407, .int .i64 t408, .string t409, .string t410] 23 (0, 0)) (by (with_reducible repeat (first | refine blk_drewN ?_ _ | refine blk_drew ?_ | refine blk_alloc ?_ _)); exact BK412.out)) : gb412 ≠ gb420)); have n9_ := Aside0.mk ((by rw [hg]; exact Nat.ne_of_gt (blk_lt (g := gb412) (o := .cells #[.int .i64 t406, .int .i64 t407, .int .i64 t408, .string t409, .string t410] 23 (0, 0)) (by (with_reducible repeat (first | refine blk_drewN ?_ _ | refine blk_drew ?_ | refine blk_alloc ?_ _)); exact BK412.out)) : gb420 ≠ gb412)); clear BK403; clear BK412; clear HB; have BK403 := n0_; have BK412 := n1_; have HB := n2_; have BK420 := n3_; have GW420 := n4_; have GE420 := n5_; have NB403_420 := n6_; have NB420_403 := n7_; have NB412_420 := n8_; have NB420_412 := n9_; clear n0_ n1_ n2_ n3_ n4_ n5_ n6_ n7_ n8_ n9_; clear hb hbox hg; have hnb56 := NB420_403.out; have hnc56 := NB403_420.out; have hnb57 := NB420_412.out; have hnc57 := NB412_420.out; have hcz58_0 : w55.cell? ⟨gb420, 0, none⟩ = some (.int .i64 0) := (blk_cell BK420.out 0).trans rfl; have hcz58_1 : w55.cell? ⟨gb420, 1, none⟩ = some (.int .i64 0) := (blk_cell BK420.out 1).trans rfl; have hcz58_2 : w55.cell? ⟨gb420, 2, none⟩ = some (.int .i64 0) := (blk_cell BK420.out 2).trans rfl; have hcz58_3 : w55.cell? ⟨gb420, 3, none⟩ = some (.string (⟨#[]⟩ : ByteArray)) := (blk_cell BK420.out 3).trans rfl; have hcz58_4 : w55.cell? ⟨gb420, 4, none⟩ = some (.string (⟨#[]⟩ : ByteArray)) := (blk_cell BK420.out 4).trans rfl; have hfz58_0 := blk_frozen BK420.out 0; have hfz58_1 := blk_frozen BK420.out 1; have hfz58_2 := blk_frozen BK420.out 2; have hfz58_3 := blk_frozen BK420.out 3; have hfz58_4 := blk_frozen BK420.out 4) | (go_at_call 10; (with_reducible refine (armadalaw07_live.calls kj14  true _ A53.out (LW0 := LW.out.below (by repeat (first | (with_reducible first | exact HB.out | apply below_alloc | apply pw_below_drewN | apply below_drew1 | refine below_set ?_ GE403.out | refine below_set ?_ GE412.out | refine below_set ?_ GE420.out) | exact HB.out)))).mono ?_); rintro e w59 ⟨rfl, hb⟩; have n0_ := Aside0.mk (blk_below (g := gb403) (o := .cells #[.int .i64 a0_0, .int .i64 a0_1, .int .i64 a0_2, .string a0_3, .string a0_4] 23 (0, 0)) (by (with_reducible repeat (first | refine blk_drewN ?_ _ | refine blk_drew ?_ | refine blk_alloc ?_ _)); refine blk_far ?_ NB403_420.out _; (with_reducible repeat (first | refine blk_drewN ?_ _ | refine blk_drew ?_ | refine blk_alloc ?_ _)); refine blk_far ?_ NB403_420.out _; (with_reducible repeat (first | refine blk_drewN ?_ _ | refine blk_drew ?_ | refine blk_alloc ?_ _)); refine blk_far ?_ NB403_420.out _; (with_reducible repeat (first | refine blk_drewN ?_ _ | refine blk_drew ?_ | refine blk_alloc ?_ _)); refine blk_far ?_ NB403_420.out _; (with_reducible repeat (first | refine blk_drewN ?_ _ | refine blk_drew ?_ | refine blk_alloc ?_ _)); refine blk_far ?_ NB403_420.out _; (with_reducible repeat (first | refine blk_drewN ?_ _ | refine blk_drew ?_ | refine blk_alloc ?_ _)); exact BK403.out) hb); have n1_ := Aside0.mk (blk_below (g := gb412) (o := .cells #[.int .i64 t406, .int .i64 t407, .int .i64 t408, .string t409, .string t410] 23 (0, 0)) (by (with_reducible repeat (first | refine blk_drewN ?_ _ | refine blk_drew ?_ | refine blk_alloc ?_ _)); refine blk_far ?_ NB412_420.out _; (with_reducible repeat (first | refine blk_drewN ?_ _ | refine blk_drew ?_ | refine blk_alloc ?_ _)); refine blk_far ?_ NB412_420.out _; (with_reducible repeat (first | refine blk_drewN ?_ _ | refine blk_drew ?_ | refine blk_alloc ?_ _)); refine blk_far ?_ NB412_420.out _; (with_reducible repeat (first | refine blk_drewN ?_ _ | refine blk_drew ?_ | refine blk_alloc ?_ _)); refine blk_far ?_ NB412_420.out _; (with_reducible repeat (first | refine blk_drewN ?_ _ | refine blk_drew ?_ | refine blk_alloc ?_ _)); refine blk_far ?_ NB412_420.out _; (with_reducible repeat (first | refine blk_drewN ?_ _ | refine blk_drew ?_ | refine blk_alloc ?_ _)); exact BK412.out) hb); have n2_ := Aside0.mk (blk_below (g := gb420) (o := .cells #[.int .i64 t414, .int .i64 t415, .int .i64 t416, .string t417, .string t418] 23 (0, 0)) (by (with_reducible repeat (first | refine blk_drewN ?_ _ | refine blk_drew ?_ | refine blk_alloc ?_ _)); refine blk_put (cs := #[.int .i64 t414, .int .i64 t415, .int .i64 t416, .string t417, .string (⟨#[]⟩ : ByteArray)]) ?_ 4 _ rfl; (with_reducible repeat (first | refine blk_drewN ?_ _ | refine blk_drew ?_ | refine blk_alloc ?_ _)); refine blk_put (cs := #[.int .i64 t414, .int .i64 t415, .int .i64 t416, .string (⟨#[]⟩ : ByteArray), .string (⟨#[]⟩ : ByteArray)]) ?_ 3 _ rfl; (with_reducible repeat (first | refine blk_drewN ?_ _ | refine blk_drew ?_ | refine blk_alloc ?_ _)); refine blk_put (cs := #[.int .i64 t414, .int .i64 t415, .int .i64 0, .string (⟨#[]⟩ : ByteArray), .string (⟨#[]⟩ : ByteArray)]) ?_ 2 _ rfl; (with_reducible repeat (first | refine blk_drewN ?_ _ | refine blk_drew ?_ | refine blk_alloc ?_ _)); refine blk_put (cs := #[.int .i64 t414, .int .i64 0, .int .i64 0, .string (⟨#[]⟩ : ByteArray), .string (⟨#[]⟩ : ByteArray)]) ?_ 1 _ rfl; (with_reducible repeat (first | refine blk_drewN ?_ _ | refine blk_drew ?_ | refine blk_alloc ?_ _)); refine blk_put (cs := #[.int .i64 0, .int .i64 0, .int .i64 0, .string (⟨#[]⟩ : ByteArray), .string (⟨#[]⟩ : ByteArray)]) ?_ 0 _ rfl; (with_reducible repeat (first | refine blk_drewN ?_ _ | refine blk_drew ?_ | refine blk_alloc ?_ _)); exact BK420.out) hb); have n3_ := Aside0.mk (below_step (by repeat (first | (with_reducible first | exact HB.out | apply below_alloc | apply pw_below_drewN | apply below_drew1 | refine below_set ?_ GE403.out | refine below_set ?_ GE412.out | refine below_set ?_ GE420.out) | exact HB.out)) hb); clear BK403; clear BK412; clear BK420; clear HB; have BK403 := n0_; have BK412 := n1_; have BK420 := n2_; have HB := n3_; clear n0_ n1_ n2_ n3_; (try clear hb); (try clear hb2); (try clear hk); (try clear hi)))
                go_ret
                exact ⟨by first | rfl | (simp [errW_none, errW_some] <;> rfl) | (simp [*, errW_none, errW_some] <;> rfl), by repeat (first | (with_reducible first | exact HB.out | apply below_alloc | apply pw_below_drewN | apply below_drew1 | refine below_set ?_ GE403.out | refine below_set ?_ GE412.out | refine below_set ?_ GE420.out) | exact HB.out)⟩
end
end Go.Proofs.YthoiepkejhhcoaaDoor.P
