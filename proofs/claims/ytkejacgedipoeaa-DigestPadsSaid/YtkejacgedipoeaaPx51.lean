-- PRINTED by print.py (a twelfth state) out of the translation. Not trusted: Lean checks it.
import Derived.Test.YtkejacgedipoeaaPx0
import Derived.Test.YtkejacgedipoeaaPx27
import Derived.Test.YtkejacgedipoeaaDPad
namespace Go.Proofs.Ytkejacgedipoeaa.P
open Go.RowKit Go.Proofs.YtkejacgedipoeaaW.PrintWords Go.Proofs.YtkejacgedipoeaaW.PrintLast Go.Proofs.YtkejacgedipoeaaW.PrintMore
attribute [local go_sem] max2_int min2_int max_two min_two max_three min_three max_four min_four   -- for this text's walks alone
set_option linter.unusedVariables false
set_option linter.unusedSimpArgs false

/-! ### armadalaw12_DigestPads: function 6 -/
mutual
def armadalaw12_DigestPads.j0 : Nat → Int → ByteArray → Bool → Option (Bool)
  | 0, _, _, _ => none
  | k + 1, x0, x3, x14 => if x14 = true then (if x3.toList = ([] : List UInt8) then ((armadalaw12_live.f).bind fun t334 => (some t334)) else (some false)) else (if (x3.size : Int) < 9 then (armadalaw12_DigestPads.j1 k x0 x3 true) else (if (x3.size : Int) > 72 then (armadalaw12_DigestPads.j1 k x0 x3 true) else (if (Int.tmod (wrap64 (x0 + (x3.size : Int))) 64) = 0 then (if 0 < (x3.size : Int) then (armadalaw12_DigestPads.j1 k x0 x3 ((bt x3 0) != 128)) else (none)) else (armadalaw12_DigestPads.j1 k x0 x3 true))))
def armadalaw12_DigestPads.j1 : Nat → Int → ByteArray → Bool → Option (Bool)
  | 0, _, _, _ => none
  | k + 1, x0, x3, x40 => if x40 = true then (some false) else (armadalaw12_DigestPads.l0 k x0 x3 0 (wrap64 ((x3.size : Int) - 8)))
def armadalaw12_DigestPads.l0 : Nat → Int → ByteArray → Int → Int → Option (Bool)
  | 0, _, _, _, _ => none
  | k + 1, x0, x3, x4, x5 => if x5 < (x3.size : Int) then (if 0 ≤ x5 then (armadalaw12_DigestPads.l0 k x0 x3 (wrap64 ((wrap64 (256 * x4)) + (wrap64 (bt x3 x5)))) (wrap64 (x5 + 1))) else (none)) else (armadalaw12_DigestPads.l1 k x0 x3 x4 1)
def armadalaw12_DigestPads.l1 : Nat → Int → ByteArray → Int → Int → Option (Bool)
  | 0, _, _, _, _ => none
  | k + 1, x0, x3, x4, x6 => if x6 < (wrap64 ((x3.size : Int) - 8)) then (if 0 ≤ x6 then (if x6 < (x3.size : Int) then (if (bt x3 x6) = 0 then (armadalaw12_DigestPads.l1 k x0 x3 x4 (wrap64 (x6 + 1))) else (some false)) else (none)) else (none)) else (if x4 = (wrap64 (8 * x0)) then ((armadalaw12_live.f).bind fun t335 => (some t335)) else (some false))
end
def armadalaw12_DigestPads.f (k : Nat) (a0 : Int) : Option (Bool) := (digest_Pad.f a0).bind fun t333 => (if a0 < 0 then (armadalaw12_DigestPads.j0 k a0 t333 true) else (armadalaw12_DigestPads.j0 k a0 t333 (decide (a0 > 1099511627776))))
theorem armadalaw12_DigestPads.mono_l : ∀ k, (∀ y0 y1 y2, LeO (armadalaw12_DigestPads.j0 k y0 y1 y2) (armadalaw12_DigestPads.j0 (k + 1) y0 y1 y2)) ∧ (∀ y0 y1 y2, LeO (armadalaw12_DigestPads.j1 k y0 y1 y2) (armadalaw12_DigestPads.j1 (k + 1) y0 y1 y2)) ∧ (∀ y0 y1 y2 y3, LeO (armadalaw12_DigestPads.l0 k y0 y1 y2 y3) (armadalaw12_DigestPads.l0 (k + 1) y0 y1 y2 y3)) ∧ (∀ y0 y1 y2 y3, LeO (armadalaw12_DigestPads.l1 k y0 y1 y2 y3) (armadalaw12_DigestPads.l1 (k + 1) y0 y1 y2 y3))
  | 0 => ⟨fun _ _ _ r h => by simp [armadalaw12_DigestPads.j0] at h, fun _ _ _ r h => by simp [armadalaw12_DigestPads.j1] at h, fun _ _ _ _ r h => by simp [armadalaw12_DigestPads.l0] at h, fun _ _ _ _ r h => by simp [armadalaw12_DigestPads.l1] at h⟩
  | k + 1 => by
    obtain ⟨ih0, ih1, ih2, ih3⟩ := armadalaw12_DigestPads.mono_l k
    refine ⟨?_, ?_, ?_, ?_⟩
    · intro y0 y1 y2
      unfold armadalaw12_DigestPads.j0
      repeat' first
      | (with_reducible exact ih0 _ _ _)
      | (with_reducible exact ih1 _ _ _)
      | (with_reducible exact ih2 _ _ _ _)
      | (with_reducible exact ih3 _ _ _ _)
      | (with_reducible exact LeO.refl _)
      | (with_reducible exact LeO.none _)
      | (with_reducible refine LeO.ite ?_ ?_)
      | (with_reducible refine LeO.bind ?_ (fun _ => ?_))
      | exact ih0 _ _ _
      | exact ih1 _ _ _
      | exact ih2 _ _ _ _
      | exact ih3 _ _ _ _
      | exact LeO.none _
      | refine LeO.ite ?_ ?_
      | refine LeO.bind ?_ (fun _ => ?_)
    · intro y0 y1 y2
      unfold armadalaw12_DigestPads.j1
      repeat' first
      | (with_reducible exact ih0 _ _ _)
      | (with_reducible exact ih1 _ _ _)
      | (with_reducible exact ih2 _ _ _ _)
      | (with_reducible exact ih3 _ _ _ _)
      | (with_reducible exact LeO.refl _)
      | (with_reducible exact LeO.none _)
      | (with_reducible refine LeO.ite ?_ ?_)
      | (with_reducible refine LeO.bind ?_ (fun _ => ?_))
      | exact ih0 _ _ _
      | exact ih1 _ _ _
      | exact ih2 _ _ _ _
      | exact ih3 _ _ _ _
      | exact LeO.none _
      | refine LeO.ite ?_ ?_
      | refine LeO.bind ?_ (fun _ => ?_)
    · intro y0 y1 y2 y3
      unfold armadalaw12_DigestPads.l0
      repeat' first
      | (with_reducible exact ih0 _ _ _)
      | (with_reducible exact ih1 _ _ _)
      | (with_reducible exact ih2 _ _ _ _)
      | (with_reducible exact ih3 _ _ _ _)
      | (with_reducible exact LeO.refl _)
      | (with_reducible exact LeO.none _)
      | (with_reducible refine LeO.ite ?_ ?_)
      | (with_reducible refine LeO.bind ?_ (fun _ => ?_))
      | exact ih0 _ _ _
      | exact ih1 _ _ _
      | exact ih2 _ _ _ _
      | exact ih3 _ _ _ _
      | exact LeO.none _
      | refine LeO.ite ?_ ?_
      | refine LeO.bind ?_ (fun _ => ?_)
    · intro y0 y1 y2 y3
      unfold armadalaw12_DigestPads.l1
      repeat' first
      | (with_reducible exact ih0 _ _ _)
      | (with_reducible exact ih1 _ _ _)
      | (with_reducible exact ih2 _ _ _ _)
      | (with_reducible exact ih3 _ _ _ _)
      | (with_reducible exact LeO.refl _)
      | (with_reducible exact LeO.none _)
      | (with_reducible refine LeO.ite ?_ ?_)
      | (with_reducible refine LeO.bind ?_ (fun _ => ?_))
      | exact ih0 _ _ _
      | exact ih1 _ _ _
      | exact ih2 _ _ _ _
      | exact ih3 _ _ _ _
      | exact LeO.none _
      | refine LeO.ite ?_ ?_
      | refine LeO.bind ?_ (fun _ => ?_)
theorem armadalaw12_DigestPads.mono : ∀ a0 k, LeO (armadalaw12_DigestPads.f k a0) (armadalaw12_DigestPads.f (k + 1) a0) := by
  intro a0 k
  obtain ⟨ih0, ih1, ih2, ih3⟩ := armadalaw12_DigestPads.mono_l k
  unfold armadalaw12_DigestPads.f
  repeat' first
      | (with_reducible exact ih0 _ _ _)
      | (with_reducible exact ih1 _ _ _)
      | (with_reducible exact ih2 _ _ _ _)
      | (with_reducible exact ih3 _ _ _ _)
      | (with_reducible exact LeO.refl _)
      | (with_reducible exact LeO.none _)
      | (with_reducible refine LeO.ite ?_ ?_)
      | (with_reducible refine LeO.bind ?_ (fun _ => ?_))
      | exact ih0 _ _ _
      | exact ih1 _ _ _
      | exact ih2 _ _ _ _
      | exact ih3 _ _ _ _
      | exact LeO.none _
      | refine LeO.ite ?_ ?_
      | refine LeO.bind ?_ (fun _ => ?_)
set_option maxHeartbeats 8000000 in
set_option maxRecDepth 100000 in
theorem armadalaw12_DigestPads.calls (k : Nat) (a0 : Int) (r : Bool) (w : World) (h : armadalaw12_DigestPads.f k a0 = some r) (hT_ : r = true := by rfl) :
    Calls Try.prog 6 #[.int .i64 a0] w fun e w' => e = .returned (.bool r) ∧ Below w.heap.size w w' := by
  subst hT_
  have HB := Aside0.mk (Below.refl w.heap.size w)
  have H : ((digest_Pad.f a0).bind fun t333 => (if a0 < 0 then (armadalaw12_DigestPads.j0 k a0 t333 true) else (armadalaw12_DigestPads.j0 k a0 t333 (decide (a0 > 1099511627776))))) = some true := h
  clear h
  replace H := Option.bind_eq_some_iff.mp H
  obtain ⟨t333, A20, H⟩ := H
  replace H : (if a0 < 0 then (armadalaw12_DigestPads.j0 k a0 t333 true) else (armadalaw12_DigestPads.j0 k a0 t333 (decide (a0 > 1099511627776)))) = some true := H
  have A2 := Aside0.mk A20
  clear A20
  have HC3 := Aside0.mk H
  clear H
  go_enter Try.func6, Try.ntmps6
  go_upto_region 2 with (first | ((with_reducible refine gate_callee (f := 15) rfl ?_); refine goesL_ (some 8) rfl rfl Try.func15 (by kernel_rfl) rfl #[.int .i64 a0] rfl (by (try simp only [List.map_toArray, List.map_cons, List.map_nil]); first | done | rfl | (simp only [List.length_drop, List.length_take]; rfl)) ?_; (with_reducible refine (digest_Pad.calls a0 t333 _ A2.out).mono ?_); rintro e w4 ⟨rfl, hb⟩; refine ⟨_, rfl, ?_⟩; have n0_ := Aside0.mk (below_step (by repeat (first | (with_reducible first | exact HB.out | apply below_alloc | apply pw_below_drewN | apply below_drew1) | exact HB.out)) hb); clear HB; have HB := n0_; clear n0_; (try clear hb); (try clear hb2); (try clear hk); (try clear hi)))
  (try simp only [Act.put, List.setIfInBounds_toArray, List.set_cons_zero, List.set_cons_succ])
  go_cut [14] (fun v14 wc => ∃ (kq : Nat) (x14_2 : Bool), v14 = .bool x14_2 ∧ Aside0 (armadalaw12_DigestPads.j0 kq a0 t333 x14_2 = some true) ∧ Aside0 (kq ≤ k) ∧ Aside0 (Below w.heap.size w wc))
  case first =>
    have H := HC3.out
    clear HC3
    by_cases c5 : a0 < 0
    · rw [if_pos c5] at H
      have c5b0 : decide (a0 < 0) = true := decide_eq_true c5
      clear c5
      (first | rw [c5b0] | (simp only [i64_w, i32_w]; rw [c5b0]) | skip)
      have H' := Aside0.mk H
      clear H
      go_wp2
      go_meet
      case rel => exact ⟨_, (true), (by first | rfl | (simp; done) | (simp [*]; done)), H', ⟨by first | omega | exact Nat.le_refl _⟩, ⟨by repeat (first | (with_reducible first | exact HB.out | apply below_alloc | apply pw_below_drewN | apply below_drew1) | exact HB.out)⟩⟩
    · rw [if_neg c5] at H
      have c5b0 : decide (a0 < 0) = false := decide_eq_false c5
      clear c5
      (first | rw [c5b0] | (simp only [i64_w, i32_w]; rw [c5b0]) | skip)
      have H' := Aside0.mk H
      clear H
      go_wp2
      go_meet
      case rel => exact ⟨_, (decide (a0 > 1099511627776)), (by first | rfl | (simp; done) | (simp [*]; done)), H', ⟨by first | omega | exact Nat.le_refl _⟩, ⟨by repeat (first | (with_reducible first | exact HB.out | apply below_alloc | apply pw_below_drewN | apply below_drew1) | exact HB.out)⟩⟩
  case rest =>
    clear HC3
    try clear c1
    try clear p2
    try clear c5
    try clear c5b0
    obtain ⟨kq, x14_2, rfl, HA, HJ2, HB⟩ := hcut
    cases kq with
    | zero => exact absurd HA.out (by simp [armadalaw12_DigestPads.j0])
    | succ kj2 =>
      have H := HA.out
      clear HA
      simp only [armadalaw12_DigestPads.j0] at H
      by_cases c6 : x14_2 = true
      · subst c6
        have H1 : (if t333.toList = ([] : List UInt8) then ((armadalaw12_live.f).bind fun t334 => (some t334)) else (some false)) = some true := by rw [if_pos rfl] at H; exact H
        clear H
        have H := H1
        clear H1
        by_cases c7 : t333.toList = ([] : List UInt8)
        · rw [if_pos c7] at H
          have c7b0 : (t333.toList == ([] : List UInt8)) = true := beq_iff_eq.mpr c7
          have c7b1 : (t333.toList != ([] : List UInt8)) = false := bne_eq_false_iff_eq.mpr c7
          clear c7
          replace H := Option.bind_eq_some_iff.mp H
          obtain ⟨t334, A80, H⟩ := H
          replace H : (some t334) = some true := H
          have A8 := Aside0.mk A80
          clear A80
          obtain rfl := Option.some.inj H
          go_wp2_with (first | (go_at_call 8; (with_reducible refine (armadalaw12_live.calls  true _ A8.out).mono ?_); rintro e w9 ⟨rfl, hb⟩; have n0_ := Aside0.mk (below_step (by repeat (first | (with_reducible first | exact HB.out | apply below_alloc | apply pw_below_drewN | apply below_drew1) | exact HB.out)) hb); clear HB; have HB := n0_; clear n0_; (try clear hb); (try clear hb2); (try clear hk); (try clear hi)))
          go_ret
          exact ⟨by first | rfl | (simp [errW_none, errW_some] <;> rfl) | (simp [*, errW_none, errW_some] <;> rfl), by repeat (first | (with_reducible first | exact HB.out | apply below_alloc | apply pw_below_drewN | apply below_drew1) | exact HB.out)⟩
        · rw [if_neg c7] at H
          have c7b0 : (t333.toList == ([] : List UInt8)) = false := beq_eq_false_iff_ne.mpr c7
          have c7b1 : (t333.toList != ([] : List UInt8)) = true := bne_iff_ne.mpr c7
          exact absurd H (by simp)
      · replace c6 := Bool.eq_false_iff.mpr c6
        subst c6
        have H1 : (if (t333.size : Int) < 9 then (armadalaw12_DigestPads.j1 kj2 a0 t333 true) else (if (t333.size : Int) > 72 then (armadalaw12_DigestPads.j1 kj2 a0 t333 true) else (if (Int.tmod (wrap64 (a0 + (t333.size : Int))) 64) = 0 then (if 0 < (t333.size : Int) then (armadalaw12_DigestPads.j1 kj2 a0 t333 ((bt t333 0) != 128)) else (none)) else (armadalaw12_DigestPads.j1 kj2 a0 t333 true)))) = some true := by rw [if_neg (show ¬ (false = true) by decide)] at H; exact H
        clear H
        have H := H1
        clear H1
        have HC10 := Aside0.mk H
        clear H
        go_upto_region 4 with (fail)
        go_cut [40] (fun v40 wc => ∃ (kq : Nat) (x40_9 : Bool), v40 = .bool x40_9 ∧ Aside0 (armadalaw12_DigestPads.j1 kq a0 t333 x40_9 = some true) ∧ Aside0 (kq ≤ kj2) ∧ Aside0 (Below w.heap.size w wc))
        case first =>
          have H := HC10.out
          clear HC10
          by_cases c11 : (t333.size : Int) < 9
          · rw [if_pos c11] at H
            have c11b0 : decide ((t333.size : Int) < 9) = true := decide_eq_true c11
            have c11b1 : decide (t333.size < 9) = true := decide_eq_true (by omega)
            clear c11
            (first | rw [c11b0] | (simp only [i64_w, i32_w]; rw [c11b0]) | skip)
            have H' := Aside0.mk H
            clear H
            go_wp2
            go_meet
            case rel => exact ⟨_, (true), (by first | rfl | (simp; done) | (simp [*]; done)), H', ⟨by have := HJ2.out; first | omega | exact Nat.le_refl _⟩, ⟨by repeat (first | (with_reducible first | exact HB.out | apply below_alloc | apply pw_below_drewN | apply below_drew1) | exact HB.out)⟩⟩
          · rw [if_neg c11] at H
            have c11b0 : decide ((t333.size : Int) < 9) = false := decide_eq_false c11
            have c11b1 : decide (t333.size < 9) = false := decide_eq_false (by omega)
            clear c11
            (first | rw [c11b0] | (simp only [i64_w, i32_w]; rw [c11b0]) | skip)
            by_cases c12 : (t333.size : Int) > 72
            · rw [if_pos c12] at H
              have c12b0 : decide (72 < (t333.size : Int)) = true := decide_eq_true c12
              have c12b1 : decide (72 < t333.size) = true := decide_eq_true (by omega)
              clear c12
              have H' := Aside0.mk H
              clear H
              go_wp2
              go_meet
              case rel => exact ⟨_, (true), (by first | rfl | (simp; done) | (simp [*]; done)), H', ⟨by have := HJ2.out; first | omega | exact Nat.le_refl _⟩, ⟨by repeat (first | (with_reducible first | exact HB.out | apply below_alloc | apply pw_below_drewN | apply below_drew1) | exact HB.out)⟩⟩
            · rw [if_neg c12] at H
              have c12b0 : decide (72 < (t333.size : Int)) = false := decide_eq_false c12
              have c12b1 : decide (72 < t333.size) = false := decide_eq_false (by omega)
              clear c12
              by_cases c13 : (Int.tmod (wrap64 (a0 + (t333.size : Int))) 64) = 0
              · rw [if_pos c13] at H
                have c13b0 : ((Int.tmod (wrap64 (a0 + (t333.size : Int))) 64) == 0) = true := beq_iff_eq.mpr c13
                have c13b1 : ((Int.tmod (wrap64 (a0 + (t333.size : Int))) 64) != 0) = false := bne_eq_false_iff_eq.mpr c13
                clear c13
                by_cases c14 : 0 < (t333.size : Int)
                · rw [if_pos c14] at H
                  have c14b0 : decide (0 < (t333.size : Int)) = true := decide_eq_true c14
                  have c14b1 : decide (0 < t333.size) = true := decide_eq_true (by omega)
                  clear c14
                  have H' := Aside0.mk H
                  clear H
                  have p15 : 0 ≤ (0 : Int) := (by omega)
                  have q15 : 0 < t333.size := (by have : (0 : Int) < (t333.size : Int) := of_decide_eq_true (by first | (with_reducible assumption) | assumption); omega)
                  have hx15 : ∀ h : 0 < t333.size, ((t333[0]'h).toNat : Int) = bt t333 0 := bt_at t333 0
                  clear p15
                  have qi15 : (0 < (t333.size : Int)) = True := eq_true (of_decide_eq_true (by first | (with_reducible assumption) | assumption))
                  replace q15 := eq_true q15
                  go_wp2
                  go_meet
                  case rel => exact ⟨_, (((bt t333 0) != 128)), (by first | rfl | (simp; done) | (simp [*]; done)), H', ⟨by have := HJ2.out; first | omega | exact Nat.le_refl _⟩, ⟨by repeat (first | (with_reducible first | exact HB.out | apply below_alloc | apply pw_below_drewN | apply below_drew1) | exact HB.out)⟩⟩
                · rw [if_neg c14] at H
                  exact absurd H (by simp)
              · rw [if_neg c13] at H
                have c13b0 : ((Int.tmod (wrap64 (a0 + (t333.size : Int))) 64) == 0) = false := beq_eq_false_iff_ne.mpr c13
                have c13b1 : ((Int.tmod (wrap64 (a0 + (t333.size : Int))) 64) != 0) = true := bne_iff_ne.mpr c13
                have H' := Aside0.mk H
                clear H
                go_wp2
                go_meet
                case rel => exact ⟨_, (true), (by first | rfl | (simp; done) | (simp [*]; done)), H', ⟨by have := HJ2.out; first | omega | exact Nat.le_refl _⟩, ⟨by repeat (first | (with_reducible first | exact HB.out | apply below_alloc | apply pw_below_drewN | apply below_drew1) | exact HB.out)⟩⟩
        case rest =>
          clear HC10
          try clear c1
          try clear p1
          try clear q1
          try clear hx1
          try clear qi1
          try clear p2
          try clear c5
          try clear c5b0
          try clear c6
          try clear p6
          try clear c7
          try clear c7b0
          try clear c7b1
          try clear c11
          try clear c11b0
          try clear c11b1
          try clear c12
          try clear c12b0
          try clear c12b1
          try clear c13
          try clear c13b0
          try clear c13b1
          try clear c14
          try clear c14b0
          try clear c14b1
          try clear c15
          try clear p15
          try clear q15
          try clear hx15
          try clear qi15
          try clear p15
          try clear p2
          try clear q15
          obtain ⟨kq, x40_9, rfl, HA, HJ9, HB⟩ := hcut
          cases kq with
          | zero => exact absurd HA.out (by simp [armadalaw12_DigestPads.j1])
          | succ kj9 =>
            have H := HA.out
            clear HA
            simp only [armadalaw12_DigestPads.j1] at H
            by_cases c16 : x40_9 = true
            · subst c16
              have H1 : (some false) = some true := by rw [if_pos rfl] at H; exact H
              clear H
              have H := H1
              clear H1
              exact absurd H (by simp)
            · replace c16 := Bool.eq_false_iff.mpr c16
              subst c16
              have H1 : (armadalaw12_DigestPads.l0 kj9 a0 t333 0 (wrap64 ((t333.size : Int) - 8))) = some true := by rw [if_neg (show ¬ (false = true) by decide)] at H; exact H
              clear H
              have H := H1
              clear H1
              have H' := Aside0.mk H
              clear H
              go_wp2
              go_loopg [4, 5] kj9 (fun kq v4 v5 w' => ∃ (x4_3 : Int) (x5_3 : Int), v4 = .int .i64 x4_3 ∧ v5 = .int .i64 x5_3 ∧ Aside0 (armadalaw12_DigestPads.l0 kq a0 t333 x4_3 x5_3 = some true) ∧ Aside0 (kq ≤ kj9) ∧ Aside0 (Below w.heap.size w w'))
              case atStart => exact ⟨(0), (wrap64 ((t333.size : Int) - 8)), (by first | rfl | (simp; done) | (simp [*]; done)), (by first | rfl | (simp; done) | (simp [*]; done)), H', ⟨Nat.le_refl _⟩, ⟨by repeat (first | (with_reducible first | exact HB.out | apply below_alloc | apply pw_below_drewN | apply below_drew1) | exact HB.out)⟩⟩
              case round =>
                clear H'
                try clear c1
                try clear p1
                try clear q1
                try clear hx1
                try clear qi1
                try clear p2
                try clear c5
                try clear c5b0
                try clear c6
                try clear p6
                try clear c7
                try clear c7b0
                try clear c7b1
                try clear c11
                try clear c11b0
                try clear c11b1
                try clear c12
                try clear c12b0
                try clear c12b1
                try clear c13
                try clear c13b0
                try clear c13b1
                try clear c14
                try clear c14b0
                try clear c14b1
                try clear c15
                try clear p15
                try clear q15
                try clear hx15
                try clear qi15
                try clear c16
                try clear p1
                try clear p15
                try clear p2
                try clear p6
                try clear q1
                try clear q15
                obtain ⟨x4_3, x5_3, rfl, rfl, HA, HK3, HB⟩ := hrel
                cases gk with
                | zero => exact absurd HA.out (by simp [armadalaw12_DigestPads.l0])
                | succ k3 =>
                  have H := HA.out
                  clear HA
                  simp only [armadalaw12_DigestPads.l0] at H
                  by_cases c17 : x5_3 < (t333.size : Int)
                  · rw [if_pos c17] at H
                    have c17b0 : decide (x5_3 < (t333.size : Int)) = true := decide_eq_true c17
                    clear c17
                    by_cases c18 : 0 ≤ x5_3
                    · rw [if_pos c18] at H
                      have c18b0 : decide (0 ≤ x5_3) = true := decide_eq_true c18
                      clear c18
                      have H' := Aside0.mk H
                      clear H
                      have p19 : 0 ≤ (x5_3 : Int) := of_decide_eq_true (by first | (with_reducible assumption) | assumption)
                      have q19 : x5_3 < (t333.size : Int) := of_decide_eq_true (by first | (with_reducible assumption) | assumption)
                      have hx19 := bt_at t333 x5_3
                      replace p19 := eq_true p19
                      replace q19 := eq_true q19
                      go_wp2
                      go_roundg k3
                      case measure => have := HJ2.out; have := HJ9.out; have := HK3.out; omega
                      case rel => exact ⟨(wrap64 ((wrap64 (256 * x4_3)) + (wrap64 (bt t333 x5_3)))), (wrap64 (x5_3 + 1)), (by first | rfl | (simp; done) | (simp [*]; done)), (by first | rfl | (simp; done) | (simp [*]; done)), H', ⟨by have := HJ2.out; have := HJ9.out; have := HK3.out; omega⟩, ⟨by repeat (first | (with_reducible first | exact HB.out | apply below_alloc | apply pw_below_drewN | apply below_drew1) | exact HB.out)⟩⟩
                    · rw [if_neg c18] at H
                      exact absurd H (by simp)
                  · rw [if_neg c17] at H
                    have c17b0 : decide (x5_3 < (t333.size : Int)) = false := decide_eq_false c17
                    clear c17
                    have H' := Aside0.mk H
                    clear H
                    go_wp2
                    go_loopg [6] k3 (fun kq v6 w' => ∃ (x6_4 : Int), v6 = .int .i64 x6_4 ∧ Aside0 (armadalaw12_DigestPads.l1 kq a0 t333 x4_3 x6_4 = some true) ∧ Aside0 (kq ≤ k3) ∧ Aside0 (Below w.heap.size w w'))
                    case atStart => exact ⟨(1), (by first | rfl | (simp; done) | (simp [*]; done)), H', ⟨Nat.le_refl _⟩, ⟨by repeat (first | (with_reducible first | exact HB.out | apply below_alloc | apply pw_below_drewN | apply below_drew1) | exact HB.out)⟩⟩
                    case round =>
                      clear H'
                      try clear c1
                      try clear p1
                      try clear q1
                      try clear hx1
                      try clear qi1
                      try clear p2
                      try clear c5
                      try clear c5b0
                      try clear c6
                      try clear p6
                      try clear c7
                      try clear c7b0
                      try clear c7b1
                      try clear c11
                      try clear c11b0
                      try clear c11b1
                      try clear c12
                      try clear c12b0
                      try clear c12b1
                      try clear c13
                      try clear c13b0
                      try clear c13b1
                      try clear c14
                      try clear c14b0
                      try clear c14b1
                      try clear c15
                      try clear p15
                      try clear q15
                      try clear hx15
                      try clear qi15
                      try clear c16
                      try clear c17
                      try clear c17b0
                      try clear c18
                      try clear c18b0
                      try clear p19
                      try clear q19
                      try clear hx19
                      try clear p1
                      try clear p15
                      try clear p19
                      try clear p2
                      try clear p6
                      try clear q1
                      try clear q15
                      try clear q19
                      obtain ⟨x6_4, rfl, HA, HK4, HB⟩ := hrel
                      cases gk with
                      | zero => exact absurd HA.out (by simp [armadalaw12_DigestPads.l1])
                      | succ k4 =>
                        have H := HA.out
                        clear HA
                        simp only [armadalaw12_DigestPads.l1] at H
                        by_cases c20 : x6_4 < (wrap64 ((t333.size : Int) - 8))
                        · rw [if_pos c20] at H
                          have c20b0 : decide (x6_4 < (wrap64 ((t333.size : Int) - 8))) = true := decide_eq_true c20
                          clear c20
                          by_cases c21 : 0 ≤ x6_4
                          · rw [if_pos c21] at H
                            have c21b0 : decide (0 ≤ x6_4) = true := decide_eq_true c21
                            clear c21
                            by_cases c22 : x6_4 < (t333.size : Int)
                            · rw [if_pos c22] at H
                              have c22b0 : decide (x6_4 < (t333.size : Int)) = true := decide_eq_true c22
                              clear c22
                              by_cases c24 : (bt t333 x6_4) = 0
                              · rw [if_pos c24] at H
                                have c24b0 : ((bt t333 x6_4) == 0) = true := beq_iff_eq.mpr c24
                                have c24b1 : ((bt t333 x6_4) != 0) = false := bne_eq_false_iff_eq.mpr c24
                                clear c24
                                have H' := Aside0.mk H
                                clear H
                                have p23 : 0 ≤ (x6_4 : Int) := of_decide_eq_true (by first | (with_reducible assumption) | assumption)
                                have q23 : x6_4 < (t333.size : Int) := of_decide_eq_true (by first | (with_reducible assumption) | assumption)
                                have hx23 := bt_at t333 x6_4
                                replace p23 := eq_true p23
                                replace q23 := eq_true q23
                                go_wp2
                                go_roundg k4
                                case measure => have := HJ2.out; have := HJ9.out; have := HK3.out; have := HK4.out; omega
                                case rel => exact ⟨(wrap64 (x6_4 + 1)), (by first | rfl | (simp; done) | (simp [*]; done)), H', ⟨by have := HJ2.out; have := HJ9.out; have := HK3.out; have := HK4.out; omega⟩, ⟨by repeat (first | (with_reducible first | exact HB.out | apply below_alloc | apply pw_below_drewN | apply below_drew1) | exact HB.out)⟩⟩
                              · rw [if_neg c24] at H
                                have c24b0 : ((bt t333 x6_4) == 0) = false := beq_eq_false_iff_ne.mpr c24
                                have c24b1 : ((bt t333 x6_4) != 0) = true := bne_iff_ne.mpr c24
                                exact absurd H (by simp)
                            · rw [if_neg c22] at H
                              exact absurd H (by simp)
                          · rw [if_neg c21] at H
                            exact absurd H (by simp)
                        · rw [if_neg c20] at H
                          have c20b0 : decide (x6_4 < (wrap64 ((t333.size : Int) - 8))) = false := decide_eq_false c20
                          clear c20
                          by_cases c25 : x4_3 = (wrap64 (8 * a0))
                          · rw [if_pos c25] at H
                            have c25b0 : (x4_3 == (wrap64 (8 * a0))) = true := beq_iff_eq.mpr c25
                            have c25b1 : (x4_3 != (wrap64 (8 * a0))) = false := bne_eq_false_iff_eq.mpr c25
                            clear c25
                            replace H := Option.bind_eq_some_iff.mp H
                            obtain ⟨t335, A260, H⟩ := H
                            replace H : (some t335) = some true := H
                            have A26 := Aside0.mk A260
                            clear A260
                            obtain rfl := Option.some.inj H
                            go_wp2_with (first | (go_at_call 8; (with_reducible refine (armadalaw12_live.calls  true _ A26.out).mono ?_); rintro e w27 ⟨rfl, hb⟩; have n0_ := Aside0.mk (below_step (by repeat (first | (with_reducible first | exact HB.out | apply below_alloc | apply pw_below_drewN | apply below_drew1) | exact HB.out)) hb); clear HB; have HB := n0_; clear n0_; (try clear hb); (try clear hb2); (try clear hk); (try clear hi)))
                            go_ret
                            exact ⟨by first | rfl | (simp [errW_none, errW_some] <;> rfl) | (simp [*, errW_none, errW_some] <;> rfl), by repeat (first | (with_reducible first | exact HB.out | apply below_alloc | apply pw_below_drewN | apply below_drew1) | exact HB.out)⟩
                          · rw [if_neg c25] at H
                            have c25b0 : (x4_3 == (wrap64 (8 * a0))) = false := beq_eq_false_iff_ne.mpr c25
                            have c25b1 : (x4_3 != (wrap64 (8 * a0))) = true := bne_iff_ne.mpr c25
                            exact absurd H (by simp)

/-- THE ONE PURE STATEMENT of armadalaw12_DigestPads: yours. -/
def armadalaw12_DigestPads.Pure : Prop := ∀ (a0 : Int), (Lit.int .i64 a0).wf = true → ∃ k, armadalaw12_DigestPads.f k a0 = some true
theorem armadalaw12_DigestPads.walk (P : armadalaw12_DigestPads.Pure) (a0 : Int) (w : World) (w0 : (Lit.int .i64 a0).wf = true) :
    Calls Try.prog 6 #[.int .i64 a0] w fun e w' => e = .returned (.bool true) ∧ Below w.heap.size w w' := by
  obtain ⟨k, h⟩ := P a0 w0
  refine (armadalaw12_DigestPads.calls k a0 true w h).mono ?_
  rintro e w' ⟨rfl, hd⟩
  exact ⟨rfl, hd⟩

end Go.Proofs.Ytkejacgedipoeaa.P
