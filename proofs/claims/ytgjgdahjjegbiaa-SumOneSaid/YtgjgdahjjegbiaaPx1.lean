-- PRINTED by print.py (a twelfth state) out of the translation. Not trusted: Lean checks it.
import Derived.Test.YtgjgdahjjegbiaaPx0
namespace Go.Proofs.Ytgjgdahjjegbiaa.P
open Go.RowKit Go.Proofs.YtgjgdahjjegbiaaW.PrintWords Go.Proofs.YtgjgdahjjegbiaaW.PrintLast Go.Proofs.YtgjgdahjjegbiaaW.PrintMore
attribute [local go_sem] max2_int min2_int max_two min_two max_three min_three max_four min_four   -- for this text's walks alone
set_option linter.unusedVariables false
set_option linter.unusedSimpArgs false

/-! ### sum_halves: function 15 -/
def sum_halves.f (a0 : Int) : Option (Int × Int × Bool) := if a0 ≥ 0 then (if (wrap64 (Int.tdiv a0 65536)) < 65521 then (some (wrap64 (Int.tdiv a0 65536), Int.tmod a0 65536, decide ((Int.tmod a0 65536) < 65521))) else (some (wrap64 (Int.tdiv a0 65536), Int.tmod a0 65536, false))) else (some (wrap64 (Int.tdiv a0 65536), Int.tmod a0 65536, false))
set_option maxHeartbeats 8000000 in
set_option maxRecDepth 100000 in
theorem sum_halves.calls (a0 : Int) (r1 : Int) (r2 : Int) (r3 : Bool) (w : World) (h : sum_halves.f a0 = some (r1, r2, r3)) :
    Calls Try.prog 15 #[.int .i64 a0] w fun e w' => e = .returned (.tuple #[.int .i64 r1, .int .i64 r2, .bool r3]) ∧ Drawn0 w w' := by
  have H : (if a0 ≥ 0 then (if (wrap64 (Int.tdiv a0 65536)) < 65521 then (some (wrap64 (Int.tdiv a0 65536), Int.tmod a0 65536, decide ((Int.tmod a0 65536) < 65521))) else (some (wrap64 (Int.tdiv a0 65536), Int.tmod a0 65536, false))) else (some (wrap64 (Int.tdiv a0 65536), Int.tmod a0 65536, false))) = some (r1, r2, r3) := h
  clear h
  by_cases c2 : a0 ≥ 0
  · rw [if_pos c2] at H
    have c2b0 : decide (0 ≤ a0) = true := decide_eq_true c2
    clear c2
    by_cases c3 : (wrap64 (Int.tdiv a0 65536)) < 65521
    · rw [if_pos c3] at H
      have c3b0 : decide ((wrap64 (Int.tdiv a0 65536)) < 65521) = true := decide_eq_true c3
      clear c3
      simp only [Option.some.injEq, Prod.mk.injEq] at H
      obtain ⟨rfl, rfl, rfl⟩ := H
      go_enter Try.func15, Try.ntmps15
      go_wp2
      go_ret3
      exact ⟨by first | rfl | (simp; done) | (simp [*]; done), by repeat (first | exact Drawn0.refl _ | apply Drawn0.step)⟩
    · rw [if_neg c3] at H
      have c3b0 : decide ((wrap64 (Int.tdiv a0 65536)) < 65521) = false := decide_eq_false c3
      clear c3
      simp only [Option.some.injEq, Prod.mk.injEq] at H
      obtain ⟨rfl, rfl, rfl⟩ := H
      go_enter Try.func15, Try.ntmps15
      go_wp2
      go_ret3
      exact ⟨by first | rfl | (simp; done) | (simp [*]; done), by repeat (first | exact Drawn0.refl _ | apply Drawn0.step)⟩
  · rw [if_neg c2] at H
    have c2b0 : decide (0 ≤ a0) = false := decide_eq_false c2
    clear c2
    simp only [Option.some.injEq, Prod.mk.injEq] at H
    obtain ⟨rfl, rfl, rfl⟩ := H
    go_enter Try.func15, Try.ntmps15
    go_wp2
    go_ret3
    exact ⟨by first | rfl | (simp; done) | (simp [*]; done), by repeat (first | exact Drawn0.refl _ | apply Drawn0.step)⟩

/-! ### sum_Roll: function 11 -/
def sum_Roll.l0 : Nat → ByteArray → Int → Int → Int → Int → Option (Int)
  | 0, _, _, _, _, _ => none
  | k + 1, x1, x5, x6, x18, x19 => if x19 < x18 then (if 0 ≤ x19 then (if x19 < (x1.size : Int) then (sum_Roll.l0 k x1 (Int.tmod (wrap64 (x5 + (Int.tmod (wrap64 (x6 + (wrap64 (bt x1 x19)))) 65521))) 65521) (Int.tmod (wrap64 (x6 + (wrap64 (bt x1 x19)))) 65521) x18 (wrap64 (x19 + 1))) else (none)) else (none)) else (some (wrap64 ((wrap64 (x5 * 65536)) + x6)))
def sum_Roll.f (k : Nat) (a0 : Int) (a1 : ByteArray) : Option (Int) := (sum_halves.f a0).bind fun bt101 => (if bt101.2.2 = true then (sum_Roll.l0 k a1 bt101.1 bt101.2.1 (a1.size : Int) 0) else (some 0))
theorem sum_Roll.mono_l : ∀ k, (∀ y0 y1 y2 y3 y4, LeO (sum_Roll.l0 k y0 y1 y2 y3 y4) (sum_Roll.l0 (k + 1) y0 y1 y2 y3 y4))
  | 0 => fun _ _ _ _ _ r h => by simp [sum_Roll.l0] at h
  | k + 1 => by
    have ih0 := sum_Roll.mono_l k
    · intro y0 y1 y2 y3 y4
      unfold sum_Roll.l0
      repeat' first
      | (with_reducible exact ih0 _ _ _ _ _)
      | (with_reducible exact LeO.refl _)
      | (with_reducible exact LeO.none _)
      | (with_reducible refine LeO.ite ?_ ?_)
      | (with_reducible refine LeO.bind ?_ (fun _ => ?_))
      | exact ih0 _ _ _ _ _
      | exact LeO.none _
      | refine LeO.ite ?_ ?_
      | refine LeO.bind ?_ (fun _ => ?_)
theorem sum_Roll.mono : ∀ a0 a1 k, LeO (sum_Roll.f k a0 a1) (sum_Roll.f (k + 1) a0 a1) := by
  intro a0 a1 k
  have ih0 := sum_Roll.mono_l k
  unfold sum_Roll.f
  repeat' first
      | (with_reducible exact ih0 _ _ _ _ _)
      | (with_reducible exact LeO.refl _)
      | (with_reducible exact LeO.none _)
      | (with_reducible refine LeO.ite ?_ ?_)
      | (with_reducible refine LeO.bind ?_ (fun _ => ?_))
      | exact ih0 _ _ _ _ _
      | exact LeO.none _
      | refine LeO.ite ?_ ?_
      | refine LeO.bind ?_ (fun _ => ?_)
set_option maxHeartbeats 8000000 in
set_option maxRecDepth 100000 in
theorem sum_Roll.calls (k : Nat) (a0 : Int) (a1 : ByteArray) (r : Int) (w : World) (h : sum_Roll.f k a0 a1 = some r) :
    Calls Try.prog 11 #[.int .i64 a0, .string a1] w fun e w' => e = .returned (.int .i64 r) ∧ Drawn0 w w' := by
  have H : ((sum_halves.f a0).bind fun bt101 => (if bt101.2.2 = true then (sum_Roll.l0 k a1 bt101.1 bt101.2.1 (a1.size : Int) 0) else (some 0))) = some r := h
  clear h
  replace H := Option.bind_eq_some_iff.mp H
  obtain ⟨⟨t101, t102, t103⟩, A30, H⟩ := H
  replace H : (if t103 = true then (sum_Roll.l0 k a1 t101 t102 (a1.size : Int) 0) else (some 0)) = some r := H
  have A3 := Aside0.mk A30
  clear A30
  by_cases c4 : t103 = true
  · subst c4
    have H1 : (sum_Roll.l0 k a1 t101 t102 (a1.size : Int) 0) = some r := by rw [if_pos rfl] at H; exact H
    clear H
    have H := H1
    clear H1
    have H' := Aside0.mk H
    clear H
    go_enter Try.func11, Try.ntmps11
    go_wp2_with (first | ((with_reducible refine gate_callee (f := 15) rfl ?_); refine goesL_ (some 11) rfl rfl Try.func15 (by kernel_rfl) rfl #[.int .i64 a0] rfl (by (try simp only [List.map_toArray, List.map_cons, List.map_nil]); first | done | rfl | (simp only [List.length_drop, List.length_take]; rfl)) ?_; (with_reducible refine (sum_halves.calls a0 t101 t102 true _ A3.out).mono ?_); rintro e w' ⟨rfl, ⟨nd, rfl⟩⟩; refine ⟨_, rfl, ?_⟩) | (go_at_call 15; (with_reducible refine (sum_halves.calls a0 t101 t102 true _ A3.out).mono ?_); rintro e w' ⟨rfl, ⟨nd, rfl⟩⟩))
    go_loopg [5, 6, 19] k (fun kq v5 v6 v19 w' => ∃ (x5_1 : Int) (x6_1 : Int) (x19_1 : Int), v5 = .int .i64 x5_1 ∧ v6 = .int .i64 x6_1 ∧ v19 = .int .i64 x19_1 ∧ Aside0 (sum_Roll.l0 kq a1 x5_1 x6_1 (a1.size : Int) x19_1 = some r) ∧ Aside0 (kq ≤ k) ∧ Drawn0 w w')
    case atStart => exact ⟨(t101), (t102), (0), (by first | rfl | (simp; done) | (simp [*]; done)), (by first | rfl | (simp; done) | (simp [*]; done)), (by first | rfl | (simp; done) | (simp [*]; done)), H', ⟨Nat.le_refl _⟩, by repeat (first | exact Drawn0.refl _ | apply Drawn0.step)⟩
    case round =>
      clear H'
      try clear c1
      try clear p2
      try clear c4
      obtain ⟨x5_1, x6_1, x19_1, rfl, rfl, rfl, HA, HK1, ⟨m1, rfl⟩⟩ := hrel
      cases gk with
      | zero => exact absurd HA.out (by simp [sum_Roll.l0])
      | succ k1 =>
        have H := HA.out
        clear HA
        simp only [sum_Roll.l0] at H
        by_cases c5 : x19_1 < (a1.size : Int)
        · rw [if_pos c5] at H
          have c5b0 : decide (x19_1 < (a1.size : Int)) = true := decide_eq_true c5
          clear c5
          by_cases c6 : 0 ≤ x19_1
          · rw [if_pos c6] at H
            have c6b0 : decide (0 ≤ x19_1) = true := decide_eq_true c6
            clear c6
            by_cases c7 : x19_1 < (a1.size : Int)
            · rw [if_pos c7] at H
              have c7b0 : decide (x19_1 < (a1.size : Int)) = true := decide_eq_true c7
              clear c7
              have H' := Aside0.mk H
              clear H
              have p8 : 0 ≤ (x19_1 : Int) := of_decide_eq_true (by first | (with_reducible assumption) | assumption)
              have q8 : x19_1 < (a1.size : Int) := of_decide_eq_true (by first | (with_reducible assumption) | assumption)
              have hx8 := bt_at a1 x19_1
              replace p8 := eq_true p8
              replace q8 := eq_true q8
              go_wp2
              go_roundg k1
              case measure => have := HK1.out; omega
              case rel => exact ⟨(Int.tmod (wrap64 (x5_1 + (Int.tmod (wrap64 (x6_1 + (wrap64 (bt a1 x19_1)))) 65521))) 65521), (Int.tmod (wrap64 (x6_1 + (wrap64 (bt a1 x19_1)))) 65521), (wrap64 (x19_1 + 1)), (by first | rfl | (simp; done) | (simp [*]; done)), (by first | rfl | (simp; done) | (simp [*]; done)), (by first | rfl | (simp; done) | (simp [*]; done)), H', ⟨by have := HK1.out; omega⟩, by repeat (first | exact Drawn0.refl _ | apply Drawn0.step)⟩
            · rw [if_neg c7] at H
              exact absurd H (by simp)
          · rw [if_neg c6] at H
            exact absurd H (by simp)
        · rw [if_neg c5] at H
          have c5b0 : decide (x19_1 < (a1.size : Int)) = false := decide_eq_false c5
          clear c5
          obtain rfl := Option.some.inj H
          go_wp2
          go_ret
          exact ⟨by first | rfl | (simp; done) | (simp [*]; done), by repeat (first | exact Drawn0.refl _ | apply Drawn0.step)⟩
  · replace c4 := Bool.eq_false_iff.mpr c4
    subst c4
    have H1 : (some 0) = some r := by rw [if_neg (show ¬ (false = true) by decide)] at H; exact H
    clear H
    have H := H1
    clear H1
    obtain rfl := Option.some.inj H
    go_enter Try.func11, Try.ntmps11
    go_wp2_with (first | ((with_reducible refine gate_callee (f := 15) rfl ?_); refine goesL_ (some 11) rfl rfl Try.func15 (by kernel_rfl) rfl #[.int .i64 a0] rfl (by (try simp only [List.map_toArray, List.map_cons, List.map_nil]); first | done | rfl | (simp only [List.length_drop, List.length_take]; rfl)) ?_; (with_reducible refine (sum_halves.calls a0 t101 t102 false _ A3.out).mono ?_); rintro e w' ⟨rfl, ⟨nd, rfl⟩⟩; refine ⟨_, rfl, ?_⟩) | (go_at_call 15; (with_reducible refine (sum_halves.calls a0 t101 t102 false _ A3.out).mono ?_); rintro e w' ⟨rfl, ⟨nd, rfl⟩⟩))
    go_ret
    exact ⟨by first | rfl | (simp; done) | (simp [*]; done), by repeat (first | exact Drawn0.refl _ | apply Drawn0.step)⟩

/-! ### sum_Of: function 9 -/
def sum_Of.f (k : Nat) (a0 : ByteArray) : Option (Int) := (sum_Roll.f k 1 a0).bind fun t104 => (some t104)
theorem sum_Of.mono : ∀ a0 k, LeO (sum_Of.f k a0) (sum_Of.f (k + 1) a0) := by
  intro a0 k
  unfold sum_Of.f
  repeat' first
      | (with_reducible exact sum_Roll.mono _ _ _)
      | (with_reducible exact LeO.refl _)
      | (with_reducible exact LeO.none _)
      | (with_reducible refine LeO.ite ?_ ?_)
      | (with_reducible refine LeO.bind ?_ (fun _ => ?_))
      | exact sum_Roll.mono _ _ _
      | exact LeO.none _
      | refine LeO.ite ?_ ?_
      | refine LeO.bind ?_ (fun _ => ?_)
set_option maxHeartbeats 8000000 in
set_option maxRecDepth 100000 in
theorem sum_Of.calls (k : Nat) (a0 : ByteArray) (r : Int) (w : World) (h : sum_Of.f k a0 = some r) :
    Calls Try.prog 9 #[.string a0] w fun e w' => e = .returned (.int .i64 r) ∧ Drawn0 w w' := by
  have H : ((sum_Roll.f k 1 a0).bind fun t104 => (some t104)) = some r := h
  clear h
  replace H := Option.bind_eq_some_iff.mp H
  obtain ⟨t104, A20, H⟩ := H
  replace H : (some t104) = some r := H
  have A2 := Aside0.mk A20
  clear A20
  obtain rfl := Option.some.inj H
  go_enter Try.func9, Try.ntmps9
  go_wp2_with (first | ((with_reducible refine gate_callee (f := 11) rfl ?_); refine goesL_ (some 4) rfl rfl Try.func11 (by kernel_rfl) rfl #[.int .i64 1, .string a0] rfl (by (try simp only [List.map_toArray, List.map_cons, List.map_nil]); first | done | rfl | (simp only [List.length_drop, List.length_take]; rfl)) ?_; (with_reducible refine (sum_Roll.calls k 1 a0 t104 _ A2.out).mono ?_); rintro e w' ⟨rfl, ⟨nd, rfl⟩⟩; refine ⟨_, rfl, ?_⟩) | (go_at_call 11; (with_reducible refine (sum_Roll.calls k 1 a0 t104 _ A2.out).mono ?_); rintro e w' ⟨rfl, ⟨nd, rfl⟩⟩))
  go_ret
  exact ⟨by first | rfl | (simp; done) | (simp [*]; done), by repeat (first | exact Drawn0.refl _ | apply Drawn0.step)⟩

/-! ### sum_Join: function 13 -/
def sum_Join.f (a0 : Int) (a1 : Int) (a2 : Int) : Option (Int) := (sum_halves.f a0).bind fun bt105 => ((sum_halves.f a1).bind fun bt108 => (if bt105.2.2 = true then (if bt108.2.2 = true then (if a2 < 0 then (some 0) else (if a2 > 1099511627776 then (some 0) else (some (wrap64 ((wrap64 ((Int.tmod (wrap64 ((wrap64 (bt105.1 + bt108.1)) + (wrap64 ((Int.tmod a2 65521) * (Int.tmod (wrap64 ((wrap64 (bt105.2.1 + 65521)) - 1)) 65521))))) 65521) * 65536)) + (Int.tmod (wrap64 ((wrap64 ((wrap64 (bt105.2.1 + 65521)) - 1)) + bt108.2.1)) 65521)))))) else (some 0)) else (some 0)))
set_option maxHeartbeats 8000000 in
set_option maxRecDepth 100000 in
theorem sum_Join.calls (a0 : Int) (a1 : Int) (a2 : Int) (r : Int) (w : World) (h : sum_Join.f a0 a1 a2 = some r) :
    Calls Try.prog 13 #[.int .i64 a0, .int .i64 a1, .int .i64 a2] w fun e w' => e = .returned (.int .i64 r) ∧ Drawn0 w w' := by
  have H : ((sum_halves.f a0).bind fun bt105 => ((sum_halves.f a1).bind fun bt108 => (if bt105.2.2 = true then (if bt108.2.2 = true then (if a2 < 0 then (some 0) else (if a2 > 1099511627776 then (some 0) else (some (wrap64 ((wrap64 ((Int.tmod (wrap64 ((wrap64 (bt105.1 + bt108.1)) + (wrap64 ((Int.tmod a2 65521) * (Int.tmod (wrap64 ((wrap64 (bt105.2.1 + 65521)) - 1)) 65521))))) 65521) * 65536)) + (Int.tmod (wrap64 ((wrap64 ((wrap64 (bt105.2.1 + 65521)) - 1)) + bt108.2.1)) 65521)))))) else (some 0)) else (some 0)))) = some r := h
  clear h
  replace H := Option.bind_eq_some_iff.mp H
  obtain ⟨⟨t105, t106, t107⟩, A40, H⟩ := H
  replace H : ((sum_halves.f a1).bind fun bt108 => (if t107 = true then (if bt108.2.2 = true then (if a2 < 0 then (some 0) else (if a2 > 1099511627776 then (some 0) else (some (wrap64 ((wrap64 ((Int.tmod (wrap64 ((wrap64 (t105 + bt108.1)) + (wrap64 ((Int.tmod a2 65521) * (Int.tmod (wrap64 ((wrap64 (t106 + 65521)) - 1)) 65521))))) 65521) * 65536)) + (Int.tmod (wrap64 ((wrap64 ((wrap64 (t106 + 65521)) - 1)) + bt108.2.1)) 65521)))))) else (some 0)) else (some 0))) = some r := H
  have A4 := Aside0.mk A40
  clear A40
  replace H := Option.bind_eq_some_iff.mp H
  obtain ⟨⟨t108, t109, t110⟩, A50, H⟩ := H
  replace H : (if t107 = true then (if t110 = true then (if a2 < 0 then (some 0) else (if a2 > 1099511627776 then (some 0) else (some (wrap64 ((wrap64 ((Int.tmod (wrap64 ((wrap64 (t105 + t108)) + (wrap64 ((Int.tmod a2 65521) * (Int.tmod (wrap64 ((wrap64 (t106 + 65521)) - 1)) 65521))))) 65521) * 65536)) + (Int.tmod (wrap64 ((wrap64 ((wrap64 (t106 + 65521)) - 1)) + t109)) 65521)))))) else (some 0)) else (some 0)) = some r := H
  have A5 := Aside0.mk A50
  clear A50
  by_cases c6 : t107 = true
  · subst c6
    have H1 : (if t110 = true then (if a2 < 0 then (some 0) else (if a2 > 1099511627776 then (some 0) else (some (wrap64 ((wrap64 ((Int.tmod (wrap64 ((wrap64 (t105 + t108)) + (wrap64 ((Int.tmod a2 65521) * (Int.tmod (wrap64 ((wrap64 (t106 + 65521)) - 1)) 65521))))) 65521) * 65536)) + (Int.tmod (wrap64 ((wrap64 ((wrap64 (t106 + 65521)) - 1)) + t109)) 65521)))))) else (some 0)) = some r := by rw [if_pos rfl] at H; exact H
    clear H
    have H := H1
    clear H1
    by_cases c7 : t110 = true
    · subst c7
      have H1 : (if a2 < 0 then (some 0) else (if a2 > 1099511627776 then (some 0) else (some (wrap64 ((wrap64 ((Int.tmod (wrap64 ((wrap64 (t105 + t108)) + (wrap64 ((Int.tmod a2 65521) * (Int.tmod (wrap64 ((wrap64 (t106 + 65521)) - 1)) 65521))))) 65521) * 65536)) + (Int.tmod (wrap64 ((wrap64 ((wrap64 (t106 + 65521)) - 1)) + t109)) 65521)))))) = some r := by rw [if_pos rfl] at H; exact H
      clear H
      have H := H1
      clear H1
      by_cases c8 : a2 < 0
      · rw [if_pos c8] at H
        have c8b0 : decide (a2 < 0) = true := decide_eq_true c8
        clear c8
        obtain rfl := Option.some.inj H
        go_enter Try.func13, Try.ntmps13
        go_wp2_with (first | ((with_reducible refine gate_callee (f := 15) rfl ?_); refine goesL_ (some 16) rfl rfl Try.func15 (by kernel_rfl) rfl #[.int .i64 a0] rfl (by (try simp only [List.map_toArray, List.map_cons, List.map_nil]); first | done | rfl | (simp only [List.length_drop, List.length_take]; rfl)) ?_; (with_reducible refine (sum_halves.calls a0 t105 t106 true _ A4.out).mono ?_); rintro e w' ⟨rfl, ⟨nd, rfl⟩⟩; refine ⟨_, rfl, ?_⟩) | (go_at_call 15; (with_reducible refine (sum_halves.calls a0 t105 t106 true _ A4.out).mono ?_); rintro e w' ⟨rfl, ⟨nd, rfl⟩⟩) | ((with_reducible refine gate_callee (f := 15) rfl ?_); refine goesL_ (some 22) rfl rfl Try.func15 (by kernel_rfl) rfl #[.int .i64 a1] rfl (by (try simp only [List.map_toArray, List.map_cons, List.map_nil]); first | done | rfl | (simp only [List.length_drop, List.length_take]; rfl)) ?_; (with_reducible refine (sum_halves.calls a1 t108 t109 true _ A5.out).mono ?_); rintro e w' ⟨rfl, ⟨nd, rfl⟩⟩; refine ⟨_, rfl, ?_⟩) | (go_at_call 15; (with_reducible refine (sum_halves.calls a1 t108 t109 true _ A5.out).mono ?_); rintro e w' ⟨rfl, ⟨nd, rfl⟩⟩))
        go_ret
        exact ⟨by first | rfl | (simp; done) | (simp [*]; done), by repeat (first | exact Drawn0.refl _ | apply Drawn0.step)⟩
      · rw [if_neg c8] at H
        have c8b0 : decide (a2 < 0) = false := decide_eq_false c8
        clear c8
        by_cases c9 : a2 > 1099511627776
        · rw [if_pos c9] at H
          have c9b0 : decide (1099511627776 < a2) = true := decide_eq_true c9
          clear c9
          obtain rfl := Option.some.inj H
          go_enter Try.func13, Try.ntmps13
          go_wp2_with (first | ((with_reducible refine gate_callee (f := 15) rfl ?_); refine goesL_ (some 16) rfl rfl Try.func15 (by kernel_rfl) rfl #[.int .i64 a0] rfl (by (try simp only [List.map_toArray, List.map_cons, List.map_nil]); first | done | rfl | (simp only [List.length_drop, List.length_take]; rfl)) ?_; (with_reducible refine (sum_halves.calls a0 t105 t106 true _ A4.out).mono ?_); rintro e w' ⟨rfl, ⟨nd, rfl⟩⟩; refine ⟨_, rfl, ?_⟩) | (go_at_call 15; (with_reducible refine (sum_halves.calls a0 t105 t106 true _ A4.out).mono ?_); rintro e w' ⟨rfl, ⟨nd, rfl⟩⟩) | ((with_reducible refine gate_callee (f := 15) rfl ?_); refine goesL_ (some 22) rfl rfl Try.func15 (by kernel_rfl) rfl #[.int .i64 a1] rfl (by (try simp only [List.map_toArray, List.map_cons, List.map_nil]); first | done | rfl | (simp only [List.length_drop, List.length_take]; rfl)) ?_; (with_reducible refine (sum_halves.calls a1 t108 t109 true _ A5.out).mono ?_); rintro e w' ⟨rfl, ⟨nd, rfl⟩⟩; refine ⟨_, rfl, ?_⟩) | (go_at_call 15; (with_reducible refine (sum_halves.calls a1 t108 t109 true _ A5.out).mono ?_); rintro e w' ⟨rfl, ⟨nd, rfl⟩⟩))
          go_ret
          exact ⟨by first | rfl | (simp; done) | (simp [*]; done), by repeat (first | exact Drawn0.refl _ | apply Drawn0.step)⟩
        · rw [if_neg c9] at H
          have c9b0 : decide (1099511627776 < a2) = false := decide_eq_false c9
          clear c9
          obtain rfl := Option.some.inj H
          go_enter Try.func13, Try.ntmps13
          go_wp2_with (first | ((with_reducible refine gate_callee (f := 15) rfl ?_); refine goesL_ (some 16) rfl rfl Try.func15 (by kernel_rfl) rfl #[.int .i64 a0] rfl (by (try simp only [List.map_toArray, List.map_cons, List.map_nil]); first | done | rfl | (simp only [List.length_drop, List.length_take]; rfl)) ?_; (with_reducible refine (sum_halves.calls a0 t105 t106 true _ A4.out).mono ?_); rintro e w' ⟨rfl, ⟨nd, rfl⟩⟩; refine ⟨_, rfl, ?_⟩) | (go_at_call 15; (with_reducible refine (sum_halves.calls a0 t105 t106 true _ A4.out).mono ?_); rintro e w' ⟨rfl, ⟨nd, rfl⟩⟩) | ((with_reducible refine gate_callee (f := 15) rfl ?_); refine goesL_ (some 22) rfl rfl Try.func15 (by kernel_rfl) rfl #[.int .i64 a1] rfl (by (try simp only [List.map_toArray, List.map_cons, List.map_nil]); first | done | rfl | (simp only [List.length_drop, List.length_take]; rfl)) ?_; (with_reducible refine (sum_halves.calls a1 t108 t109 true _ A5.out).mono ?_); rintro e w' ⟨rfl, ⟨nd, rfl⟩⟩; refine ⟨_, rfl, ?_⟩) | (go_at_call 15; (with_reducible refine (sum_halves.calls a1 t108 t109 true _ A5.out).mono ?_); rintro e w' ⟨rfl, ⟨nd, rfl⟩⟩))
          go_ret
          exact ⟨by first | rfl | (simp; done) | (simp [*]; done), by repeat (first | exact Drawn0.refl _ | apply Drawn0.step)⟩
    · replace c7 := Bool.eq_false_iff.mpr c7
      subst c7
      have H1 : (some 0) = some r := by rw [if_neg (show ¬ (false = true) by decide)] at H; exact H
      clear H
      have H := H1
      clear H1
      obtain rfl := Option.some.inj H
      go_enter Try.func13, Try.ntmps13
      go_wp2_with (first | ((with_reducible refine gate_callee (f := 15) rfl ?_); refine goesL_ (some 16) rfl rfl Try.func15 (by kernel_rfl) rfl #[.int .i64 a0] rfl (by (try simp only [List.map_toArray, List.map_cons, List.map_nil]); first | done | rfl | (simp only [List.length_drop, List.length_take]; rfl)) ?_; (with_reducible refine (sum_halves.calls a0 t105 t106 true _ A4.out).mono ?_); rintro e w' ⟨rfl, ⟨nd, rfl⟩⟩; refine ⟨_, rfl, ?_⟩) | (go_at_call 15; (with_reducible refine (sum_halves.calls a0 t105 t106 true _ A4.out).mono ?_); rintro e w' ⟨rfl, ⟨nd, rfl⟩⟩) | ((with_reducible refine gate_callee (f := 15) rfl ?_); refine goesL_ (some 22) rfl rfl Try.func15 (by kernel_rfl) rfl #[.int .i64 a1] rfl (by (try simp only [List.map_toArray, List.map_cons, List.map_nil]); first | done | rfl | (simp only [List.length_drop, List.length_take]; rfl)) ?_; (with_reducible refine (sum_halves.calls a1 t108 t109 false _ A5.out).mono ?_); rintro e w' ⟨rfl, ⟨nd, rfl⟩⟩; refine ⟨_, rfl, ?_⟩) | (go_at_call 15; (with_reducible refine (sum_halves.calls a1 t108 t109 false _ A5.out).mono ?_); rintro e w' ⟨rfl, ⟨nd, rfl⟩⟩))
      go_ret
      exact ⟨by first | rfl | (simp; done) | (simp [*]; done), by repeat (first | exact Drawn0.refl _ | apply Drawn0.step)⟩
  · replace c6 := Bool.eq_false_iff.mpr c6
    subst c6
    have H1 : (some 0) = some r := by rw [if_neg (show ¬ (false = true) by decide)] at H; exact H
    clear H
    have H := H1
    clear H1
    obtain rfl := Option.some.inj H
    go_enter Try.func13, Try.ntmps13
    go_wp2_with (first | ((with_reducible refine gate_callee (f := 15) rfl ?_); refine goesL_ (some 16) rfl rfl Try.func15 (by kernel_rfl) rfl #[.int .i64 a0] rfl (by (try simp only [List.map_toArray, List.map_cons, List.map_nil]); first | done | rfl | (simp only [List.length_drop, List.length_take]; rfl)) ?_; (with_reducible refine (sum_halves.calls a0 t105 t106 false _ A4.out).mono ?_); rintro e w' ⟨rfl, ⟨nd, rfl⟩⟩; refine ⟨_, rfl, ?_⟩) | (go_at_call 15; (with_reducible refine (sum_halves.calls a0 t105 t106 false _ A4.out).mono ?_); rintro e w' ⟨rfl, ⟨nd, rfl⟩⟩) | ((with_reducible refine gate_callee (f := 15) rfl ?_); refine goesL_ (some 22) rfl rfl Try.func15 (by kernel_rfl) rfl #[.int .i64 a1] rfl (by (try simp only [List.map_toArray, List.map_cons, List.map_nil]); first | done | rfl | (simp only [List.length_drop, List.length_take]; rfl)) ?_; (with_reducible refine (sum_halves.calls a1 t108 t109 t110 _ A5.out).mono ?_); rintro e w' ⟨rfl, ⟨nd, rfl⟩⟩; refine ⟨_, rfl, ?_⟩) | (go_at_call 15; (with_reducible refine (sum_halves.calls a1 t108 t109 t110 _ A5.out).mono ?_); rintro e w' ⟨rfl, ⟨nd, rfl⟩⟩))
    go_ret
    exact ⟨by first | rfl | (simp; done) | (simp [*]; done), by repeat (first | exact Drawn0.refl _ | apply Drawn0.step)⟩

/-! ### armadalaw02_live: function 8 -/
def armadalaw02_live.f (k : Nat)  : Option (Bool) := (sum_Of.f k (⟨#[]⟩ : ByteArray)).bind fun t111 => (if t111 = 1 then ((sum_Of.f k (⟨#[87, 105, 107, 105, 112, 101, 100, 105, 97]⟩ : ByteArray)).bind fun t112 => (if t112 = 300286872 then ((sum_Of.f k (⟨#[87, 105, 107, 105]⟩ : ByteArray)).bind fun t113 => ((sum_Roll.f k t113 (⟨#[112, 101, 100, 105, 97]⟩ : ByteArray)).bind fun t114 => (if t114 = 300286872 then ((sum_Roll.f k (-1) (⟨#[97]⟩ : ByteArray)).bind fun t115 => (if t115 = 0 then ((sum_Roll.f k 65521 (⟨#[]⟩ : ByteArray)).bind fun t116 => (if t116 = 0 then ((sum_Roll.f k 65520 (⟨#[]⟩ : ByteArray)).bind fun t117 => (if t117 = 65520 then ((sum_Of.f k (⟨#[112, 101, 100, 105, 97]⟩ : ByteArray)).bind fun t118 => ((sum_Join.f t113 t118 5).bind fun t119 => (if t119 = 300286872 then ((sum_Join.f 1 1 (-1)).bind fun t120 => (some (t120 == 0))) else (some false)))) else (some false))) else (some false))) else (some false))) else (some false)))) else (some false))) else (some false))
theorem armadalaw02_live.mono : ∀ k, LeO (armadalaw02_live.f k ) (armadalaw02_live.f (k + 1) ) := by
  intro  k
  unfold armadalaw02_live.f
  repeat' first
      | (with_reducible exact sum_Of.mono _ _)
      | (with_reducible exact sum_Roll.mono _ _ _)
      | (with_reducible exact LeO.refl _)
      | (with_reducible exact LeO.none _)
      | (with_reducible refine LeO.ite ?_ ?_)
      | (with_reducible refine LeO.bind ?_ (fun _ => ?_))
      | exact sum_Of.mono _ _
      | exact sum_Roll.mono _ _ _
      | exact LeO.none _
      | refine LeO.ite ?_ ?_
      | refine LeO.bind ?_ (fun _ => ?_)
set_option maxHeartbeats 8000000 in
set_option maxRecDepth 100000 in
theorem armadalaw02_live.calls (k : Nat)  (r : Bool) (w : World) (h : armadalaw02_live.f k  = some r) :
    Calls Try.prog 8 #[] w fun e w' => e = .returned (.bool r) ∧ Drawn0 w w' := by
  have H : ((sum_Of.f k (⟨#[]⟩ : ByteArray)).bind fun t111 => (if t111 = 1 then ((sum_Of.f k (⟨#[87, 105, 107, 105, 112, 101, 100, 105, 97]⟩ : ByteArray)).bind fun t112 => (if t112 = 300286872 then ((sum_Of.f k (⟨#[87, 105, 107, 105]⟩ : ByteArray)).bind fun t113 => ((sum_Roll.f k t113 (⟨#[112, 101, 100, 105, 97]⟩ : ByteArray)).bind fun t114 => (if t114 = 300286872 then ((sum_Roll.f k (-1) (⟨#[97]⟩ : ByteArray)).bind fun t115 => (if t115 = 0 then ((sum_Roll.f k 65521 (⟨#[]⟩ : ByteArray)).bind fun t116 => (if t116 = 0 then ((sum_Roll.f k 65520 (⟨#[]⟩ : ByteArray)).bind fun t117 => (if t117 = 65520 then ((sum_Of.f k (⟨#[112, 101, 100, 105, 97]⟩ : ByteArray)).bind fun t118 => ((sum_Join.f t113 t118 5).bind fun t119 => (if t119 = 300286872 then ((sum_Join.f 1 1 (-1)).bind fun t120 => (some (t120 == 0))) else (some false)))) else (some false))) else (some false))) else (some false))) else (some false)))) else (some false))) else (some false))) = some r := h
  clear h
  replace H := Option.bind_eq_some_iff.mp H
  obtain ⟨t111, A10, H⟩ := H
  replace H : (if t111 = 1 then ((sum_Of.f k (⟨#[87, 105, 107, 105, 112, 101, 100, 105, 97]⟩ : ByteArray)).bind fun t112 => (if t112 = 300286872 then ((sum_Of.f k (⟨#[87, 105, 107, 105]⟩ : ByteArray)).bind fun t113 => ((sum_Roll.f k t113 (⟨#[112, 101, 100, 105, 97]⟩ : ByteArray)).bind fun t114 => (if t114 = 300286872 then ((sum_Roll.f k (-1) (⟨#[97]⟩ : ByteArray)).bind fun t115 => (if t115 = 0 then ((sum_Roll.f k 65521 (⟨#[]⟩ : ByteArray)).bind fun t116 => (if t116 = 0 then ((sum_Roll.f k 65520 (⟨#[]⟩ : ByteArray)).bind fun t117 => (if t117 = 65520 then ((sum_Of.f k (⟨#[112, 101, 100, 105, 97]⟩ : ByteArray)).bind fun t118 => ((sum_Join.f t113 t118 5).bind fun t119 => (if t119 = 300286872 then ((sum_Join.f 1 1 (-1)).bind fun t120 => (some (t120 == 0))) else (some false)))) else (some false))) else (some false))) else (some false))) else (some false)))) else (some false))) else (some false)) = some r := H
  have A1 := Aside0.mk A10
  clear A10
  by_cases c2 : t111 = 1
  · rw [if_pos c2] at H
    have c2b0 : (t111 == 1) = true := beq_iff_eq.mpr c2
    have c2b1 : (t111 != 1) = false := bne_eq_false_iff_eq.mpr c2
    clear c2
    replace H := Option.bind_eq_some_iff.mp H
    obtain ⟨t112, A30, H⟩ := H
    replace H : (if t112 = 300286872 then ((sum_Of.f k (⟨#[87, 105, 107, 105]⟩ : ByteArray)).bind fun t113 => ((sum_Roll.f k t113 (⟨#[112, 101, 100, 105, 97]⟩ : ByteArray)).bind fun t114 => (if t114 = 300286872 then ((sum_Roll.f k (-1) (⟨#[97]⟩ : ByteArray)).bind fun t115 => (if t115 = 0 then ((sum_Roll.f k 65521 (⟨#[]⟩ : ByteArray)).bind fun t116 => (if t116 = 0 then ((sum_Roll.f k 65520 (⟨#[]⟩ : ByteArray)).bind fun t117 => (if t117 = 65520 then ((sum_Of.f k (⟨#[112, 101, 100, 105, 97]⟩ : ByteArray)).bind fun t118 => ((sum_Join.f t113 t118 5).bind fun t119 => (if t119 = 300286872 then ((sum_Join.f 1 1 (-1)).bind fun t120 => (some (t120 == 0))) else (some false)))) else (some false))) else (some false))) else (some false))) else (some false)))) else (some false)) = some r := H
    have A3 := Aside0.mk A30
    clear A30
    by_cases c4 : t112 = 300286872
    · rw [if_pos c4] at H
      have c4b0 : (t112 == 300286872) = true := beq_iff_eq.mpr c4
      have c4b1 : (t112 != 300286872) = false := bne_eq_false_iff_eq.mpr c4
      clear c4
      replace H := Option.bind_eq_some_iff.mp H
      obtain ⟨t113, A50, H⟩ := H
      replace H : ((sum_Roll.f k t113 (⟨#[112, 101, 100, 105, 97]⟩ : ByteArray)).bind fun t114 => (if t114 = 300286872 then ((sum_Roll.f k (-1) (⟨#[97]⟩ : ByteArray)).bind fun t115 => (if t115 = 0 then ((sum_Roll.f k 65521 (⟨#[]⟩ : ByteArray)).bind fun t116 => (if t116 = 0 then ((sum_Roll.f k 65520 (⟨#[]⟩ : ByteArray)).bind fun t117 => (if t117 = 65520 then ((sum_Of.f k (⟨#[112, 101, 100, 105, 97]⟩ : ByteArray)).bind fun t118 => ((sum_Join.f t113 t118 5).bind fun t119 => (if t119 = 300286872 then ((sum_Join.f 1 1 (-1)).bind fun t120 => (some (t120 == 0))) else (some false)))) else (some false))) else (some false))) else (some false))) else (some false))) = some r := H
      have A5 := Aside0.mk A50
      clear A50
      replace H := Option.bind_eq_some_iff.mp H
      obtain ⟨t114, A60, H⟩ := H
      replace H : (if t114 = 300286872 then ((sum_Roll.f k (-1) (⟨#[97]⟩ : ByteArray)).bind fun t115 => (if t115 = 0 then ((sum_Roll.f k 65521 (⟨#[]⟩ : ByteArray)).bind fun t116 => (if t116 = 0 then ((sum_Roll.f k 65520 (⟨#[]⟩ : ByteArray)).bind fun t117 => (if t117 = 65520 then ((sum_Of.f k (⟨#[112, 101, 100, 105, 97]⟩ : ByteArray)).bind fun t118 => ((sum_Join.f t113 t118 5).bind fun t119 => (if t119 = 300286872 then ((sum_Join.f 1 1 (-1)).bind fun t120 => (some (t120 == 0))) else (some false)))) else (some false))) else (some false))) else (some false))) else (some false)) = some r := H
      have A6 := Aside0.mk A60
      clear A60
      by_cases c7 : t114 = 300286872
      · rw [if_pos c7] at H
        have c7b0 : (t114 == 300286872) = true := beq_iff_eq.mpr c7
        have c7b1 : (t114 != 300286872) = false := bne_eq_false_iff_eq.mpr c7
        clear c7
        replace H := Option.bind_eq_some_iff.mp H
        obtain ⟨t115, A80, H⟩ := H
        replace H : (if t115 = 0 then ((sum_Roll.f k 65521 (⟨#[]⟩ : ByteArray)).bind fun t116 => (if t116 = 0 then ((sum_Roll.f k 65520 (⟨#[]⟩ : ByteArray)).bind fun t117 => (if t117 = 65520 then ((sum_Of.f k (⟨#[112, 101, 100, 105, 97]⟩ : ByteArray)).bind fun t118 => ((sum_Join.f t113 t118 5).bind fun t119 => (if t119 = 300286872 then ((sum_Join.f 1 1 (-1)).bind fun t120 => (some (t120 == 0))) else (some false)))) else (some false))) else (some false))) else (some false)) = some r := H
        have A8 := Aside0.mk A80
        clear A80
        by_cases c9 : t115 = 0
        · rw [if_pos c9] at H
          have c9b0 : (t115 == 0) = true := beq_iff_eq.mpr c9
          have c9b1 : (t115 != 0) = false := bne_eq_false_iff_eq.mpr c9
          clear c9
          replace H := Option.bind_eq_some_iff.mp H
          obtain ⟨t116, A100, H⟩ := H
          replace H : (if t116 = 0 then ((sum_Roll.f k 65520 (⟨#[]⟩ : ByteArray)).bind fun t117 => (if t117 = 65520 then ((sum_Of.f k (⟨#[112, 101, 100, 105, 97]⟩ : ByteArray)).bind fun t118 => ((sum_Join.f t113 t118 5).bind fun t119 => (if t119 = 300286872 then ((sum_Join.f 1 1 (-1)).bind fun t120 => (some (t120 == 0))) else (some false)))) else (some false))) else (some false)) = some r := H
          have A10 := Aside0.mk A100
          clear A100
          by_cases c11 : t116 = 0
          · rw [if_pos c11] at H
            have c11b0 : (t116 == 0) = true := beq_iff_eq.mpr c11
            have c11b1 : (t116 != 0) = false := bne_eq_false_iff_eq.mpr c11
            clear c11
            replace H := Option.bind_eq_some_iff.mp H
            obtain ⟨t117, A120, H⟩ := H
            replace H : (if t117 = 65520 then ((sum_Of.f k (⟨#[112, 101, 100, 105, 97]⟩ : ByteArray)).bind fun t118 => ((sum_Join.f t113 t118 5).bind fun t119 => (if t119 = 300286872 then ((sum_Join.f 1 1 (-1)).bind fun t120 => (some (t120 == 0))) else (some false)))) else (some false)) = some r := H
            have A12 := Aside0.mk A120
            clear A120
            by_cases c13 : t117 = 65520
            · rw [if_pos c13] at H
              have c13b0 : (t117 == 65520) = true := beq_iff_eq.mpr c13
              have c13b1 : (t117 != 65520) = false := bne_eq_false_iff_eq.mpr c13
              clear c13
              replace H := Option.bind_eq_some_iff.mp H
              obtain ⟨t118, A140, H⟩ := H
              replace H : ((sum_Join.f t113 t118 5).bind fun t119 => (if t119 = 300286872 then ((sum_Join.f 1 1 (-1)).bind fun t120 => (some (t120 == 0))) else (some false))) = some r := H
              have A14 := Aside0.mk A140
              clear A140
              replace H := Option.bind_eq_some_iff.mp H
              obtain ⟨t119, A150, H⟩ := H
              replace H : (if t119 = 300286872 then ((sum_Join.f 1 1 (-1)).bind fun t120 => (some (t120 == 0))) else (some false)) = some r := H
              have A15 := Aside0.mk A150
              clear A150
              by_cases c16 : t119 = 300286872
              · rw [if_pos c16] at H
                have c16b0 : (t119 == 300286872) = true := beq_iff_eq.mpr c16
                have c16b1 : (t119 != 300286872) = false := bne_eq_false_iff_eq.mpr c16
                clear c16
                replace H := Option.bind_eq_some_iff.mp H
                obtain ⟨t120, A170, H⟩ := H
                replace H : (some (t120 == 0)) = some r := H
                have A17 := Aside0.mk A170
                clear A170
                obtain rfl := Option.some.inj H
                go_enter Try.func8, Try.ntmps8
                go_wp2_with (first | ((with_reducible refine gate_callee (f := 9) rfl ?_); refine goesL_ (some 1) rfl rfl Try.func9 (by kernel_rfl) rfl #[.string (⟨#[]⟩ : ByteArray)] rfl (by (try simp only [List.map_toArray, List.map_cons, List.map_nil]); first | done | rfl | (simp only [List.length_drop, List.length_take]; rfl)) ?_; (with_reducible refine (sum_Of.calls k (⟨#[]⟩ : ByteArray) t111 _ A1.out).mono ?_); rintro e w' ⟨rfl, ⟨nd, rfl⟩⟩; refine ⟨_, rfl, ?_⟩) | (go_at_call 9; (with_reducible refine (sum_Of.calls k (⟨#[]⟩ : ByteArray) t111 _ A1.out).mono ?_); rintro e w' ⟨rfl, ⟨nd, rfl⟩⟩) | (go_at_call 9; (with_reducible refine (sum_Of.calls k (⟨#[87, 105, 107, 105, 112, 101, 100, 105, 97]⟩ : ByteArray) t112 _ A3.out).mono ?_); rintro e w' ⟨rfl, ⟨nd, rfl⟩⟩) | (go_at_call 9; (with_reducible refine (sum_Of.calls k (⟨#[87, 105, 107, 105]⟩ : ByteArray) t113 _ A5.out).mono ?_); rintro e w' ⟨rfl, ⟨nd, rfl⟩⟩) | (go_at_call 11; (with_reducible refine (sum_Roll.calls k t113 (⟨#[112, 101, 100, 105, 97]⟩ : ByteArray) t114 _ A6.out).mono ?_); rintro e w' ⟨rfl, ⟨nd, rfl⟩⟩) | (go_at_call 11; (with_reducible refine (sum_Roll.calls k (-1) (⟨#[97]⟩ : ByteArray) t115 _ A8.out).mono ?_); rintro e w' ⟨rfl, ⟨nd, rfl⟩⟩) | (go_at_call 11; (with_reducible refine (sum_Roll.calls k 65521 (⟨#[]⟩ : ByteArray) t116 _ A10.out).mono ?_); rintro e w' ⟨rfl, ⟨nd, rfl⟩⟩) | (go_at_call 11; (with_reducible refine (sum_Roll.calls k 65520 (⟨#[]⟩ : ByteArray) t117 _ A12.out).mono ?_); rintro e w' ⟨rfl, ⟨nd, rfl⟩⟩) | (go_at_call 9; (with_reducible refine (sum_Of.calls k (⟨#[112, 101, 100, 105, 97]⟩ : ByteArray) t118 _ A14.out).mono ?_); rintro e w' ⟨rfl, ⟨nd, rfl⟩⟩) | (go_at_call 13; (with_reducible refine (sum_Join.calls t113 t118 5 t119 _ A15.out).mono ?_); rintro e w' ⟨rfl, ⟨nd, rfl⟩⟩) | (go_at_call 13; (with_reducible refine (sum_Join.calls 1 1 (-1) t120 _ A17.out).mono ?_); rintro e w' ⟨rfl, ⟨nd, rfl⟩⟩))
                go_ret
                exact ⟨by first | rfl | (simp; done) | (simp [*]; done), by repeat (first | exact Drawn0.refl _ | apply Drawn0.step)⟩
              · rw [if_neg c16] at H
                have c16b0 : (t119 == 300286872) = false := beq_eq_false_iff_ne.mpr c16
                have c16b1 : (t119 != 300286872) = true := bne_iff_ne.mpr c16
                obtain rfl := Option.some.inj H
                go_enter Try.func8, Try.ntmps8
                go_wp2_with (first | ((with_reducible refine gate_callee (f := 9) rfl ?_); refine goesL_ (some 1) rfl rfl Try.func9 (by kernel_rfl) rfl #[.string (⟨#[]⟩ : ByteArray)] rfl (by (try simp only [List.map_toArray, List.map_cons, List.map_nil]); first | done | rfl | (simp only [List.length_drop, List.length_take]; rfl)) ?_; (with_reducible refine (sum_Of.calls k (⟨#[]⟩ : ByteArray) t111 _ A1.out).mono ?_); rintro e w' ⟨rfl, ⟨nd, rfl⟩⟩; refine ⟨_, rfl, ?_⟩) | (go_at_call 9; (with_reducible refine (sum_Of.calls k (⟨#[]⟩ : ByteArray) t111 _ A1.out).mono ?_); rintro e w' ⟨rfl, ⟨nd, rfl⟩⟩) | (go_at_call 9; (with_reducible refine (sum_Of.calls k (⟨#[87, 105, 107, 105, 112, 101, 100, 105, 97]⟩ : ByteArray) t112 _ A3.out).mono ?_); rintro e w' ⟨rfl, ⟨nd, rfl⟩⟩) | (go_at_call 9; (with_reducible refine (sum_Of.calls k (⟨#[87, 105, 107, 105]⟩ : ByteArray) t113 _ A5.out).mono ?_); rintro e w' ⟨rfl, ⟨nd, rfl⟩⟩) | (go_at_call 11; (with_reducible refine (sum_Roll.calls k t113 (⟨#[112, 101, 100, 105, 97]⟩ : ByteArray) t114 _ A6.out).mono ?_); rintro e w' ⟨rfl, ⟨nd, rfl⟩⟩) | (go_at_call 11; (with_reducible refine (sum_Roll.calls k (-1) (⟨#[97]⟩ : ByteArray) t115 _ A8.out).mono ?_); rintro e w' ⟨rfl, ⟨nd, rfl⟩⟩) | (go_at_call 11; (with_reducible refine (sum_Roll.calls k 65521 (⟨#[]⟩ : ByteArray) t116 _ A10.out).mono ?_); rintro e w' ⟨rfl, ⟨nd, rfl⟩⟩) | (go_at_call 11; (with_reducible refine (sum_Roll.calls k 65520 (⟨#[]⟩ : ByteArray) t117 _ A12.out).mono ?_); rintro e w' ⟨rfl, ⟨nd, rfl⟩⟩) | (go_at_call 9; (with_reducible refine (sum_Of.calls k (⟨#[112, 101, 100, 105, 97]⟩ : ByteArray) t118 _ A14.out).mono ?_); rintro e w' ⟨rfl, ⟨nd, rfl⟩⟩) | (go_at_call 13; (with_reducible refine (sum_Join.calls t113 t118 5 t119 _ A15.out).mono ?_); rintro e w' ⟨rfl, ⟨nd, rfl⟩⟩))
                go_ret
                exact ⟨by first | rfl | (simp; done) | (simp [*]; done), by repeat (first | exact Drawn0.refl _ | apply Drawn0.step)⟩
            · rw [if_neg c13] at H
              have c13b0 : (t117 == 65520) = false := beq_eq_false_iff_ne.mpr c13
              have c13b1 : (t117 != 65520) = true := bne_iff_ne.mpr c13
              obtain rfl := Option.some.inj H
              go_enter Try.func8, Try.ntmps8
              go_wp2_with (first | ((with_reducible refine gate_callee (f := 9) rfl ?_); refine goesL_ (some 1) rfl rfl Try.func9 (by kernel_rfl) rfl #[.string (⟨#[]⟩ : ByteArray)] rfl (by (try simp only [List.map_toArray, List.map_cons, List.map_nil]); first | done | rfl | (simp only [List.length_drop, List.length_take]; rfl)) ?_; (with_reducible refine (sum_Of.calls k (⟨#[]⟩ : ByteArray) t111 _ A1.out).mono ?_); rintro e w' ⟨rfl, ⟨nd, rfl⟩⟩; refine ⟨_, rfl, ?_⟩) | (go_at_call 9; (with_reducible refine (sum_Of.calls k (⟨#[]⟩ : ByteArray) t111 _ A1.out).mono ?_); rintro e w' ⟨rfl, ⟨nd, rfl⟩⟩) | (go_at_call 9; (with_reducible refine (sum_Of.calls k (⟨#[87, 105, 107, 105, 112, 101, 100, 105, 97]⟩ : ByteArray) t112 _ A3.out).mono ?_); rintro e w' ⟨rfl, ⟨nd, rfl⟩⟩) | (go_at_call 9; (with_reducible refine (sum_Of.calls k (⟨#[87, 105, 107, 105]⟩ : ByteArray) t113 _ A5.out).mono ?_); rintro e w' ⟨rfl, ⟨nd, rfl⟩⟩) | (go_at_call 11; (with_reducible refine (sum_Roll.calls k t113 (⟨#[112, 101, 100, 105, 97]⟩ : ByteArray) t114 _ A6.out).mono ?_); rintro e w' ⟨rfl, ⟨nd, rfl⟩⟩) | (go_at_call 11; (with_reducible refine (sum_Roll.calls k (-1) (⟨#[97]⟩ : ByteArray) t115 _ A8.out).mono ?_); rintro e w' ⟨rfl, ⟨nd, rfl⟩⟩) | (go_at_call 11; (with_reducible refine (sum_Roll.calls k 65521 (⟨#[]⟩ : ByteArray) t116 _ A10.out).mono ?_); rintro e w' ⟨rfl, ⟨nd, rfl⟩⟩) | (go_at_call 11; (with_reducible refine (sum_Roll.calls k 65520 (⟨#[]⟩ : ByteArray) t117 _ A12.out).mono ?_); rintro e w' ⟨rfl, ⟨nd, rfl⟩⟩))
              go_ret
              exact ⟨by first | rfl | (simp; done) | (simp [*]; done), by repeat (first | exact Drawn0.refl _ | apply Drawn0.step)⟩
          · rw [if_neg c11] at H
            have c11b0 : (t116 == 0) = false := beq_eq_false_iff_ne.mpr c11
            have c11b1 : (t116 != 0) = true := bne_iff_ne.mpr c11
            obtain rfl := Option.some.inj H
            go_enter Try.func8, Try.ntmps8
            go_wp2_with (first | ((with_reducible refine gate_callee (f := 9) rfl ?_); refine goesL_ (some 1) rfl rfl Try.func9 (by kernel_rfl) rfl #[.string (⟨#[]⟩ : ByteArray)] rfl (by (try simp only [List.map_toArray, List.map_cons, List.map_nil]); first | done | rfl | (simp only [List.length_drop, List.length_take]; rfl)) ?_; (with_reducible refine (sum_Of.calls k (⟨#[]⟩ : ByteArray) t111 _ A1.out).mono ?_); rintro e w' ⟨rfl, ⟨nd, rfl⟩⟩; refine ⟨_, rfl, ?_⟩) | (go_at_call 9; (with_reducible refine (sum_Of.calls k (⟨#[]⟩ : ByteArray) t111 _ A1.out).mono ?_); rintro e w' ⟨rfl, ⟨nd, rfl⟩⟩) | (go_at_call 9; (with_reducible refine (sum_Of.calls k (⟨#[87, 105, 107, 105, 112, 101, 100, 105, 97]⟩ : ByteArray) t112 _ A3.out).mono ?_); rintro e w' ⟨rfl, ⟨nd, rfl⟩⟩) | (go_at_call 9; (with_reducible refine (sum_Of.calls k (⟨#[87, 105, 107, 105]⟩ : ByteArray) t113 _ A5.out).mono ?_); rintro e w' ⟨rfl, ⟨nd, rfl⟩⟩) | (go_at_call 11; (with_reducible refine (sum_Roll.calls k t113 (⟨#[112, 101, 100, 105, 97]⟩ : ByteArray) t114 _ A6.out).mono ?_); rintro e w' ⟨rfl, ⟨nd, rfl⟩⟩) | (go_at_call 11; (with_reducible refine (sum_Roll.calls k (-1) (⟨#[97]⟩ : ByteArray) t115 _ A8.out).mono ?_); rintro e w' ⟨rfl, ⟨nd, rfl⟩⟩) | (go_at_call 11; (with_reducible refine (sum_Roll.calls k 65521 (⟨#[]⟩ : ByteArray) t116 _ A10.out).mono ?_); rintro e w' ⟨rfl, ⟨nd, rfl⟩⟩))
            go_ret
            exact ⟨by first | rfl | (simp; done) | (simp [*]; done), by repeat (first | exact Drawn0.refl _ | apply Drawn0.step)⟩
        · rw [if_neg c9] at H
          have c9b0 : (t115 == 0) = false := beq_eq_false_iff_ne.mpr c9
          have c9b1 : (t115 != 0) = true := bne_iff_ne.mpr c9
          obtain rfl := Option.some.inj H
          go_enter Try.func8, Try.ntmps8
          go_wp2_with (first | ((with_reducible refine gate_callee (f := 9) rfl ?_); refine goesL_ (some 1) rfl rfl Try.func9 (by kernel_rfl) rfl #[.string (⟨#[]⟩ : ByteArray)] rfl (by (try simp only [List.map_toArray, List.map_cons, List.map_nil]); first | done | rfl | (simp only [List.length_drop, List.length_take]; rfl)) ?_; (with_reducible refine (sum_Of.calls k (⟨#[]⟩ : ByteArray) t111 _ A1.out).mono ?_); rintro e w' ⟨rfl, ⟨nd, rfl⟩⟩; refine ⟨_, rfl, ?_⟩) | (go_at_call 9; (with_reducible refine (sum_Of.calls k (⟨#[]⟩ : ByteArray) t111 _ A1.out).mono ?_); rintro e w' ⟨rfl, ⟨nd, rfl⟩⟩) | (go_at_call 9; (with_reducible refine (sum_Of.calls k (⟨#[87, 105, 107, 105, 112, 101, 100, 105, 97]⟩ : ByteArray) t112 _ A3.out).mono ?_); rintro e w' ⟨rfl, ⟨nd, rfl⟩⟩) | (go_at_call 9; (with_reducible refine (sum_Of.calls k (⟨#[87, 105, 107, 105]⟩ : ByteArray) t113 _ A5.out).mono ?_); rintro e w' ⟨rfl, ⟨nd, rfl⟩⟩) | (go_at_call 11; (with_reducible refine (sum_Roll.calls k t113 (⟨#[112, 101, 100, 105, 97]⟩ : ByteArray) t114 _ A6.out).mono ?_); rintro e w' ⟨rfl, ⟨nd, rfl⟩⟩) | (go_at_call 11; (with_reducible refine (sum_Roll.calls k (-1) (⟨#[97]⟩ : ByteArray) t115 _ A8.out).mono ?_); rintro e w' ⟨rfl, ⟨nd, rfl⟩⟩))
          go_ret
          exact ⟨by first | rfl | (simp; done) | (simp [*]; done), by repeat (first | exact Drawn0.refl _ | apply Drawn0.step)⟩
      · rw [if_neg c7] at H
        have c7b0 : (t114 == 300286872) = false := beq_eq_false_iff_ne.mpr c7
        have c7b1 : (t114 != 300286872) = true := bne_iff_ne.mpr c7
        obtain rfl := Option.some.inj H
        go_enter Try.func8, Try.ntmps8
        go_wp2_with (first | ((with_reducible refine gate_callee (f := 9) rfl ?_); refine goesL_ (some 1) rfl rfl Try.func9 (by kernel_rfl) rfl #[.string (⟨#[]⟩ : ByteArray)] rfl (by (try simp only [List.map_toArray, List.map_cons, List.map_nil]); first | done | rfl | (simp only [List.length_drop, List.length_take]; rfl)) ?_; (with_reducible refine (sum_Of.calls k (⟨#[]⟩ : ByteArray) t111 _ A1.out).mono ?_); rintro e w' ⟨rfl, ⟨nd, rfl⟩⟩; refine ⟨_, rfl, ?_⟩) | (go_at_call 9; (with_reducible refine (sum_Of.calls k (⟨#[]⟩ : ByteArray) t111 _ A1.out).mono ?_); rintro e w' ⟨rfl, ⟨nd, rfl⟩⟩) | (go_at_call 9; (with_reducible refine (sum_Of.calls k (⟨#[87, 105, 107, 105, 112, 101, 100, 105, 97]⟩ : ByteArray) t112 _ A3.out).mono ?_); rintro e w' ⟨rfl, ⟨nd, rfl⟩⟩) | (go_at_call 9; (with_reducible refine (sum_Of.calls k (⟨#[87, 105, 107, 105]⟩ : ByteArray) t113 _ A5.out).mono ?_); rintro e w' ⟨rfl, ⟨nd, rfl⟩⟩) | (go_at_call 11; (with_reducible refine (sum_Roll.calls k t113 (⟨#[112, 101, 100, 105, 97]⟩ : ByteArray) t114 _ A6.out).mono ?_); rintro e w' ⟨rfl, ⟨nd, rfl⟩⟩))
        go_ret
        exact ⟨by first | rfl | (simp; done) | (simp [*]; done), by repeat (first | exact Drawn0.refl _ | apply Drawn0.step)⟩
    · rw [if_neg c4] at H
      have c4b0 : (t112 == 300286872) = false := beq_eq_false_iff_ne.mpr c4
      have c4b1 : (t112 != 300286872) = true := bne_iff_ne.mpr c4
      obtain rfl := Option.some.inj H
      go_enter Try.func8, Try.ntmps8
      go_wp2_with (first | ((with_reducible refine gate_callee (f := 9) rfl ?_); refine goesL_ (some 1) rfl rfl Try.func9 (by kernel_rfl) rfl #[.string (⟨#[]⟩ : ByteArray)] rfl (by (try simp only [List.map_toArray, List.map_cons, List.map_nil]); first | done | rfl | (simp only [List.length_drop, List.length_take]; rfl)) ?_; (with_reducible refine (sum_Of.calls k (⟨#[]⟩ : ByteArray) t111 _ A1.out).mono ?_); rintro e w' ⟨rfl, ⟨nd, rfl⟩⟩; refine ⟨_, rfl, ?_⟩) | (go_at_call 9; (with_reducible refine (sum_Of.calls k (⟨#[]⟩ : ByteArray) t111 _ A1.out).mono ?_); rintro e w' ⟨rfl, ⟨nd, rfl⟩⟩) | (go_at_call 9; (with_reducible refine (sum_Of.calls k (⟨#[87, 105, 107, 105, 112, 101, 100, 105, 97]⟩ : ByteArray) t112 _ A3.out).mono ?_); rintro e w' ⟨rfl, ⟨nd, rfl⟩⟩))
      go_ret
      exact ⟨by first | rfl | (simp; done) | (simp [*]; done), by repeat (first | exact Drawn0.refl _ | apply Drawn0.step)⟩
  · rw [if_neg c2] at H
    have c2b0 : (t111 == 1) = false := beq_eq_false_iff_ne.mpr c2
    have c2b1 : (t111 != 1) = true := bne_iff_ne.mpr c2
    obtain rfl := Option.some.inj H
    go_enter Try.func8, Try.ntmps8
    go_wp2_with (first | ((with_reducible refine gate_callee (f := 9) rfl ?_); refine goesL_ (some 1) rfl rfl Try.func9 (by kernel_rfl) rfl #[.string (⟨#[]⟩ : ByteArray)] rfl (by (try simp only [List.map_toArray, List.map_cons, List.map_nil]); first | done | rfl | (simp only [List.length_drop, List.length_take]; rfl)) ?_; (with_reducible refine (sum_Of.calls k (⟨#[]⟩ : ByteArray) t111 _ A1.out).mono ?_); rintro e w' ⟨rfl, ⟨nd, rfl⟩⟩; refine ⟨_, rfl, ?_⟩) | (go_at_call 9; (with_reducible refine (sum_Of.calls k (⟨#[]⟩ : ByteArray) t111 _ A1.out).mono ?_); rintro e w' ⟨rfl, ⟨nd, rfl⟩⟩))
    go_ret
    exact ⟨by first | rfl | (simp; done) | (simp [*]; done), by repeat (first | exact Drawn0.refl _ | apply Drawn0.step)⟩

/-! ### armadaref02_Is: function 16 -/
def armadaref02_Is.f (a0 : Int) : Option (Bool) := if a0 ≥ 0 then (if (wrap64 (Int.tdiv a0 65536)) ≤ 65520 then (some (decide ((Int.tmod a0 65536) ≤ 65520))) else (some false)) else (some false)
set_option maxHeartbeats 8000000 in
set_option maxRecDepth 100000 in
theorem armadaref02_Is.calls (a0 : Int) (r : Bool) (w : World) (h : armadaref02_Is.f a0 = some r) :
    Calls Try.prog 16 #[.int .i64 a0] w fun e w' => e = .returned (.bool r) ∧ Drawn0 w w' := by
  have H : (if a0 ≥ 0 then (if (wrap64 (Int.tdiv a0 65536)) ≤ 65520 then (some (decide ((Int.tmod a0 65536) ≤ 65520))) else (some false)) else (some false)) = some r := h
  clear h
  by_cases c2 : a0 ≥ 0
  · rw [if_pos c2] at H
    have c2b0 : decide (0 ≤ a0) = true := decide_eq_true c2
    clear c2
    by_cases c3 : (wrap64 (Int.tdiv a0 65536)) ≤ 65520
    · rw [if_pos c3] at H
      have c3b0 : decide ((wrap64 (Int.tdiv a0 65536)) ≤ 65520) = true := decide_eq_true c3
      clear c3
      obtain rfl := Option.some.inj H
      go_enter Try.func16, Try.ntmps16
      go_wp2
      go_ret
      exact ⟨by first | rfl | (simp; done) | (simp [*]; done), by repeat (first | exact Drawn0.refl _ | apply Drawn0.step)⟩
    · rw [if_neg c3] at H
      have c3b0 : decide ((wrap64 (Int.tdiv a0 65536)) ≤ 65520) = false := decide_eq_false c3
      clear c3
      obtain rfl := Option.some.inj H
      go_enter Try.func16, Try.ntmps16
      go_wp2
      go_ret
      exact ⟨by first | rfl | (simp; done) | (simp [*]; done), by repeat (first | exact Drawn0.refl _ | apply Drawn0.step)⟩
  · rw [if_neg c2] at H
    have c2b0 : decide (0 ≤ a0) = false := decide_eq_false c2
    clear c2
    obtain rfl := Option.some.inj H
    go_enter Try.func16, Try.ntmps16
    go_wp2
    go_ret
    exact ⟨by first | rfl | (simp; done) | (simp [*]; done), by repeat (first | exact Drawn0.refl _ | apply Drawn0.step)⟩

/-! ### armadaref02_Roll: function 12 -/
def armadaref02_Roll.l0 : Nat → ByteArray → Int → Int → Int → Option (Int)
  | 0, _, _, _, _ => none
  | k + 1, x1, x5, x6, x7 => if x7 < (x1.size : Int) then (if 0 ≤ x7 then (armadaref02_Roll.l0 k x1 (Int.tmod (wrap64 (x5 + (wrap64 (bt x1 x7)))) 65521) (Int.tmod (wrap64 (x6 + (Int.tmod (wrap64 (x5 + (wrap64 (bt x1 x7)))) 65521))) 65521) (wrap64 (x7 + 1))) else (none)) else (some (wrap64 ((wrap64 (65536 * x6)) + x5)))
def armadaref02_Roll.f (k : Nat) (a0 : Int) (a1 : ByteArray) : Option (Int) := (armadaref02_Is.f a0).bind fun t121 => (if t121 = true then (armadaref02_Roll.l0 k a1 (Int.tmod a0 65536) (wrap64 (Int.tdiv a0 65536)) 0) else (some 0))
theorem armadaref02_Roll.mono_l : ∀ k, (∀ y0 y1 y2 y3, LeO (armadaref02_Roll.l0 k y0 y1 y2 y3) (armadaref02_Roll.l0 (k + 1) y0 y1 y2 y3))
  | 0 => fun _ _ _ _ r h => by simp [armadaref02_Roll.l0] at h
  | k + 1 => by
    have ih0 := armadaref02_Roll.mono_l k
    · intro y0 y1 y2 y3
      unfold armadaref02_Roll.l0
      repeat' first
      | (with_reducible exact ih0 _ _ _ _)
      | (with_reducible exact LeO.refl _)
      | (with_reducible exact LeO.none _)
      | (with_reducible refine LeO.ite ?_ ?_)
      | (with_reducible refine LeO.bind ?_ (fun _ => ?_))
      | exact ih0 _ _ _ _
      | exact LeO.none _
      | refine LeO.ite ?_ ?_
      | refine LeO.bind ?_ (fun _ => ?_)
theorem armadaref02_Roll.mono : ∀ a0 a1 k, LeO (armadaref02_Roll.f k a0 a1) (armadaref02_Roll.f (k + 1) a0 a1) := by
  intro a0 a1 k
  have ih0 := armadaref02_Roll.mono_l k
  unfold armadaref02_Roll.f
  repeat' first
      | (with_reducible exact ih0 _ _ _ _)
      | (with_reducible exact LeO.refl _)
      | (with_reducible exact LeO.none _)
      | (with_reducible refine LeO.ite ?_ ?_)
      | (with_reducible refine LeO.bind ?_ (fun _ => ?_))
      | exact ih0 _ _ _ _
      | exact LeO.none _
      | refine LeO.ite ?_ ?_
      | refine LeO.bind ?_ (fun _ => ?_)
set_option maxHeartbeats 8000000 in
set_option maxRecDepth 100000 in
theorem armadaref02_Roll.calls (k : Nat) (a0 : Int) (a1 : ByteArray) (r : Int) (w : World) (h : armadaref02_Roll.f k a0 a1 = some r) :
    Calls Try.prog 12 #[.int .i64 a0, .string a1] w fun e w' => e = .returned (.int .i64 r) ∧ Drawn0 w w' := by
  have H : ((armadaref02_Is.f a0).bind fun t121 => (if t121 = true then (armadaref02_Roll.l0 k a1 (Int.tmod a0 65536) (wrap64 (Int.tdiv a0 65536)) 0) else (some 0))) = some r := h
  clear h
  replace H := Option.bind_eq_some_iff.mp H
  obtain ⟨t121, A30, H⟩ := H
  replace H : (if t121 = true then (armadaref02_Roll.l0 k a1 (Int.tmod a0 65536) (wrap64 (Int.tdiv a0 65536)) 0) else (some 0)) = some r := H
  have A3 := Aside0.mk A30
  clear A30
  by_cases c4 : t121 = true
  · subst c4
    have H1 : (armadaref02_Roll.l0 k a1 (Int.tmod a0 65536) (wrap64 (Int.tdiv a0 65536)) 0) = some r := by rw [if_pos rfl] at H; exact H
    clear H
    have H := H1
    clear H1
    have H' := Aside0.mk H
    clear H
    go_enter Try.func12, Try.ntmps12
    go_wp2_with (first | ((with_reducible refine gate_callee (f := 16) rfl ?_); refine goesL_ (some 9) rfl rfl Try.func16 (by kernel_rfl) rfl #[.int .i64 a0] rfl (by (try simp only [List.map_toArray, List.map_cons, List.map_nil]); first | done | rfl | (simp only [List.length_drop, List.length_take]; rfl)) ?_; (with_reducible refine (armadaref02_Is.calls a0 true _ A3.out).mono ?_); rintro e w' ⟨rfl, ⟨nd, rfl⟩⟩; refine ⟨_, rfl, ?_⟩) | (go_at_call 16; (with_reducible refine (armadaref02_Is.calls a0 true _ A3.out).mono ?_); rintro e w' ⟨rfl, ⟨nd, rfl⟩⟩))
    go_loopg [5, 6, 7] k (fun kq v5 v6 v7 w' => ∃ (x5_1 : Int) (x6_1 : Int) (x7_1 : Int), v5 = .int .i64 x5_1 ∧ v6 = .int .i64 x6_1 ∧ v7 = .int .i64 x7_1 ∧ Aside0 (armadaref02_Roll.l0 kq a1 x5_1 x6_1 x7_1 = some r) ∧ Aside0 (kq ≤ k) ∧ Drawn0 w w')
    case atStart => exact ⟨(Int.tmod a0 65536), (wrap64 (Int.tdiv a0 65536)), (0), (by first | rfl | (simp; done) | (simp [*]; done)), (by first | rfl | (simp; done) | (simp [*]; done)), (by first | rfl | (simp; done) | (simp [*]; done)), H', ⟨Nat.le_refl _⟩, by repeat (first | exact Drawn0.refl _ | apply Drawn0.step)⟩
    case round =>
      clear H'
      try clear c1
      try clear p2
      try clear c4
      obtain ⟨x5_1, x6_1, x7_1, rfl, rfl, rfl, HA, HK1, ⟨m1, rfl⟩⟩ := hrel
      cases gk with
      | zero => exact absurd HA.out (by simp [armadaref02_Roll.l0])
      | succ k1 =>
        have H := HA.out
        clear HA
        simp only [armadaref02_Roll.l0] at H
        by_cases c5 : x7_1 < (a1.size : Int)
        · rw [if_pos c5] at H
          have c5b0 : decide (x7_1 < (a1.size : Int)) = true := decide_eq_true c5
          clear c5
          by_cases c6 : 0 ≤ x7_1
          · rw [if_pos c6] at H
            have c6b0 : decide (0 ≤ x7_1) = true := decide_eq_true c6
            clear c6
            have H' := Aside0.mk H
            clear H
            have p7 : 0 ≤ (x7_1 : Int) := of_decide_eq_true (by first | (with_reducible assumption) | assumption)
            have q7 : x7_1 < (a1.size : Int) := of_decide_eq_true (by first | (with_reducible assumption) | assumption)
            have hx7 := bt_at a1 x7_1
            replace p7 := eq_true p7
            replace q7 := eq_true q7
            go_wp2
            go_roundg k1
            case measure => have := HK1.out; omega
            case rel => exact ⟨(Int.tmod (wrap64 (x5_1 + (wrap64 (bt a1 x7_1)))) 65521), (Int.tmod (wrap64 (x6_1 + (Int.tmod (wrap64 (x5_1 + (wrap64 (bt a1 x7_1)))) 65521))) 65521), (wrap64 (x7_1 + 1)), (by first | rfl | (simp; done) | (simp [*]; done)), (by first | rfl | (simp; done) | (simp [*]; done)), (by first | rfl | (simp; done) | (simp [*]; done)), H', ⟨by have := HK1.out; omega⟩, by repeat (first | exact Drawn0.refl _ | apply Drawn0.step)⟩
          · rw [if_neg c6] at H
            exact absurd H (by simp)
        · rw [if_neg c5] at H
          have c5b0 : decide (x7_1 < (a1.size : Int)) = false := decide_eq_false c5
          clear c5
          obtain rfl := Option.some.inj H
          go_wp2
          go_ret
          exact ⟨by first | rfl | (simp; done) | (simp [*]; done), by repeat (first | exact Drawn0.refl _ | apply Drawn0.step)⟩
  · replace c4 := Bool.eq_false_iff.mpr c4
    subst c4
    have H1 : (some 0) = some r := by rw [if_neg (show ¬ (false = true) by decide)] at H; exact H
    clear H
    have H := H1
    clear H1
    obtain rfl := Option.some.inj H
    go_enter Try.func12, Try.ntmps12
    go_wp2_with (first | ((with_reducible refine gate_callee (f := 16) rfl ?_); refine goesL_ (some 9) rfl rfl Try.func16 (by kernel_rfl) rfl #[.int .i64 a0] rfl (by (try simp only [List.map_toArray, List.map_cons, List.map_nil]); first | done | rfl | (simp only [List.length_drop, List.length_take]; rfl)) ?_; (with_reducible refine (armadaref02_Is.calls a0 false _ A3.out).mono ?_); rintro e w' ⟨rfl, ⟨nd, rfl⟩⟩; refine ⟨_, rfl, ?_⟩) | (go_at_call 16; (with_reducible refine (armadaref02_Is.calls a0 false _ A3.out).mono ?_); rintro e w' ⟨rfl, ⟨nd, rfl⟩⟩))
    go_ret
    exact ⟨by first | rfl | (simp; done) | (simp [*]; done), by repeat (first | exact Drawn0.refl _ | apply Drawn0.step)⟩

/-! ### armadaref02_Of: function 10 -/
def armadaref02_Of.f (k : Nat) (a0 : ByteArray) : Option (Int) := (armadaref02_Roll.f k 1 a0).bind fun t122 => (some t122)
theorem armadaref02_Of.mono : ∀ a0 k, LeO (armadaref02_Of.f k a0) (armadaref02_Of.f (k + 1) a0) := by
  intro a0 k
  unfold armadaref02_Of.f
  repeat' first
      | (with_reducible exact armadaref02_Roll.mono _ _ _)
      | (with_reducible exact LeO.refl _)
      | (with_reducible exact LeO.none _)
      | (with_reducible refine LeO.ite ?_ ?_)
      | (with_reducible refine LeO.bind ?_ (fun _ => ?_))
      | exact armadaref02_Roll.mono _ _ _
      | exact LeO.none _
      | refine LeO.ite ?_ ?_
      | refine LeO.bind ?_ (fun _ => ?_)
set_option maxHeartbeats 8000000 in
set_option maxRecDepth 100000 in
theorem armadaref02_Of.calls (k : Nat) (a0 : ByteArray) (r : Int) (w : World) (h : armadaref02_Of.f k a0 = some r) :
    Calls Try.prog 10 #[.string a0] w fun e w' => e = .returned (.int .i64 r) ∧ Drawn0 w w' := by
  have H : ((armadaref02_Roll.f k 1 a0).bind fun t122 => (some t122)) = some r := h
  clear h
  replace H := Option.bind_eq_some_iff.mp H
  obtain ⟨t122, A20, H⟩ := H
  replace H : (some t122) = some r := H
  have A2 := Aside0.mk A20
  clear A20
  obtain rfl := Option.some.inj H
  go_enter Try.func10, Try.ntmps10
  go_wp2_with (first | ((with_reducible refine gate_callee (f := 12) rfl ?_); refine goesL_ (some 4) rfl rfl Try.func12 (by kernel_rfl) rfl #[.int .i64 1, .string a0] rfl (by (try simp only [List.map_toArray, List.map_cons, List.map_nil]); first | done | rfl | (simp only [List.length_drop, List.length_take]; rfl)) ?_; (with_reducible refine (armadaref02_Roll.calls k 1 a0 t122 _ A2.out).mono ?_); rintro e w' ⟨rfl, ⟨nd, rfl⟩⟩; refine ⟨_, rfl, ?_⟩) | (go_at_call 12; (with_reducible refine (armadaref02_Roll.calls k 1 a0 t122 _ A2.out).mono ?_); rintro e w' ⟨rfl, ⟨nd, rfl⟩⟩))
  go_ret
  exact ⟨by first | rfl | (simp; done) | (simp [*]; done), by repeat (first | exact Drawn0.refl _ | apply Drawn0.step)⟩

/-! ### armadaref02_Join: function 14 -/
def armadaref02_Join.f (a0 : Int) (a1 : Int) (a2 : Int) : Option (Int) := (armadaref02_Is.f a0).bind fun t123 => (if t123 = true then ((armadaref02_Is.f a1).bind fun t124 => (if t124 = true then (if a2 < 0 then (some 0) else (if a2 > 1099511627776 then (some 0) else (some (wrap64 ((wrap64 (65536 * (Int.tmod (wrap64 ((wrap64 ((wrap64 (Int.tdiv a0 65536)) + (wrap64 (Int.tdiv a1 65536)))) + (wrap64 ((Int.tmod a2 65521) * (Int.tmod (wrap64 ((Int.tmod a0 65536) + 65520)) 65521))))) 65521))) + (Int.tmod (wrap64 ((wrap64 ((Int.tmod a0 65536) + (Int.tmod a1 65536))) + 65520)) 65521)))))) else (some 0))) else (some 0))
set_option maxHeartbeats 8000000 in
set_option maxRecDepth 100000 in
theorem armadaref02_Join.calls (a0 : Int) (a1 : Int) (a2 : Int) (r : Int) (w : World) (h : armadaref02_Join.f a0 a1 a2 = some r) :
    Calls Try.prog 14 #[.int .i64 a0, .int .i64 a1, .int .i64 a2] w fun e w' => e = .returned (.int .i64 r) ∧ Drawn0 w w' := by
  have H : ((armadaref02_Is.f a0).bind fun t123 => (if t123 = true then ((armadaref02_Is.f a1).bind fun t124 => (if t124 = true then (if a2 < 0 then (some 0) else (if a2 > 1099511627776 then (some 0) else (some (wrap64 ((wrap64 (65536 * (Int.tmod (wrap64 ((wrap64 ((wrap64 (Int.tdiv a0 65536)) + (wrap64 (Int.tdiv a1 65536)))) + (wrap64 ((Int.tmod a2 65521) * (Int.tmod (wrap64 ((Int.tmod a0 65536) + 65520)) 65521))))) 65521))) + (Int.tmod (wrap64 ((wrap64 ((Int.tmod a0 65536) + (Int.tmod a1 65536))) + 65520)) 65521)))))) else (some 0))) else (some 0))) = some r := h
  clear h
  replace H := Option.bind_eq_some_iff.mp H
  obtain ⟨t123, A40, H⟩ := H
  replace H : (if t123 = true then ((armadaref02_Is.f a1).bind fun t124 => (if t124 = true then (if a2 < 0 then (some 0) else (if a2 > 1099511627776 then (some 0) else (some (wrap64 ((wrap64 (65536 * (Int.tmod (wrap64 ((wrap64 ((wrap64 (Int.tdiv a0 65536)) + (wrap64 (Int.tdiv a1 65536)))) + (wrap64 ((Int.tmod a2 65521) * (Int.tmod (wrap64 ((Int.tmod a0 65536) + 65520)) 65521))))) 65521))) + (Int.tmod (wrap64 ((wrap64 ((Int.tmod a0 65536) + (Int.tmod a1 65536))) + 65520)) 65521)))))) else (some 0))) else (some 0)) = some r := H
  have A4 := Aside0.mk A40
  clear A40
  by_cases c5 : t123 = true
  · subst c5
    have H1 : ((armadaref02_Is.f a1).bind fun t124 => (if t124 = true then (if a2 < 0 then (some 0) else (if a2 > 1099511627776 then (some 0) else (some (wrap64 ((wrap64 (65536 * (Int.tmod (wrap64 ((wrap64 ((wrap64 (Int.tdiv a0 65536)) + (wrap64 (Int.tdiv a1 65536)))) + (wrap64 ((Int.tmod a2 65521) * (Int.tmod (wrap64 ((Int.tmod a0 65536) + 65520)) 65521))))) 65521))) + (Int.tmod (wrap64 ((wrap64 ((Int.tmod a0 65536) + (Int.tmod a1 65536))) + 65520)) 65521)))))) else (some 0))) = some r := by rw [if_pos rfl] at H; exact H
    clear H
    have H := H1
    clear H1
    replace H := Option.bind_eq_some_iff.mp H
    obtain ⟨t124, A60, H⟩ := H
    replace H : (if t124 = true then (if a2 < 0 then (some 0) else (if a2 > 1099511627776 then (some 0) else (some (wrap64 ((wrap64 (65536 * (Int.tmod (wrap64 ((wrap64 ((wrap64 (Int.tdiv a0 65536)) + (wrap64 (Int.tdiv a1 65536)))) + (wrap64 ((Int.tmod a2 65521) * (Int.tmod (wrap64 ((Int.tmod a0 65536) + 65520)) 65521))))) 65521))) + (Int.tmod (wrap64 ((wrap64 ((Int.tmod a0 65536) + (Int.tmod a1 65536))) + 65520)) 65521)))))) else (some 0)) = some r := H
    have A6 := Aside0.mk A60
    clear A60
    by_cases c7 : t124 = true
    · subst c7
      have H1 : (if a2 < 0 then (some 0) else (if a2 > 1099511627776 then (some 0) else (some (wrap64 ((wrap64 (65536 * (Int.tmod (wrap64 ((wrap64 ((wrap64 (Int.tdiv a0 65536)) + (wrap64 (Int.tdiv a1 65536)))) + (wrap64 ((Int.tmod a2 65521) * (Int.tmod (wrap64 ((Int.tmod a0 65536) + 65520)) 65521))))) 65521))) + (Int.tmod (wrap64 ((wrap64 ((Int.tmod a0 65536) + (Int.tmod a1 65536))) + 65520)) 65521)))))) = some r := by rw [if_pos rfl] at H; exact H
      clear H
      have H := H1
      clear H1
      by_cases c8 : a2 < 0
      · rw [if_pos c8] at H
        have c8b0 : decide (a2 < 0) = true := decide_eq_true c8
        clear c8
        obtain rfl := Option.some.inj H
        go_enter Try.func14, Try.ntmps14
        go_wp2_with (first | ((with_reducible refine gate_callee (f := 16) rfl ?_); refine goesL_ (some 10) rfl rfl Try.func16 (by kernel_rfl) rfl #[.int .i64 a0] rfl (by (try simp only [List.map_toArray, List.map_cons, List.map_nil]); first | done | rfl | (simp only [List.length_drop, List.length_take]; rfl)) ?_; (with_reducible refine (armadaref02_Is.calls a0 true _ A4.out).mono ?_); rintro e w' ⟨rfl, ⟨nd, rfl⟩⟩; refine ⟨_, rfl, ?_⟩) | (go_at_call 16; (with_reducible refine (armadaref02_Is.calls a0 true _ A4.out).mono ?_); rintro e w' ⟨rfl, ⟨nd, rfl⟩⟩) | (go_at_call 16; (with_reducible refine (armadaref02_Is.calls a1 true _ A6.out).mono ?_); rintro e w' ⟨rfl, ⟨nd, rfl⟩⟩))
        go_ret
        exact ⟨by first | rfl | (simp; done) | (simp [*]; done), by repeat (first | exact Drawn0.refl _ | apply Drawn0.step)⟩
      · rw [if_neg c8] at H
        have c8b0 : decide (a2 < 0) = false := decide_eq_false c8
        clear c8
        by_cases c9 : a2 > 1099511627776
        · rw [if_pos c9] at H
          have c9b0 : decide (1099511627776 < a2) = true := decide_eq_true c9
          clear c9
          obtain rfl := Option.some.inj H
          go_enter Try.func14, Try.ntmps14
          go_wp2_with (first | ((with_reducible refine gate_callee (f := 16) rfl ?_); refine goesL_ (some 10) rfl rfl Try.func16 (by kernel_rfl) rfl #[.int .i64 a0] rfl (by (try simp only [List.map_toArray, List.map_cons, List.map_nil]); first | done | rfl | (simp only [List.length_drop, List.length_take]; rfl)) ?_; (with_reducible refine (armadaref02_Is.calls a0 true _ A4.out).mono ?_); rintro e w' ⟨rfl, ⟨nd, rfl⟩⟩; refine ⟨_, rfl, ?_⟩) | (go_at_call 16; (with_reducible refine (armadaref02_Is.calls a0 true _ A4.out).mono ?_); rintro e w' ⟨rfl, ⟨nd, rfl⟩⟩) | (go_at_call 16; (with_reducible refine (armadaref02_Is.calls a1 true _ A6.out).mono ?_); rintro e w' ⟨rfl, ⟨nd, rfl⟩⟩))
          go_ret
          exact ⟨by first | rfl | (simp; done) | (simp [*]; done), by repeat (first | exact Drawn0.refl _ | apply Drawn0.step)⟩
        · rw [if_neg c9] at H
          have c9b0 : decide (1099511627776 < a2) = false := decide_eq_false c9
          clear c9
          obtain rfl := Option.some.inj H
          go_enter Try.func14, Try.ntmps14
          go_wp2_with (first | ((with_reducible refine gate_callee (f := 16) rfl ?_); refine goesL_ (some 10) rfl rfl Try.func16 (by kernel_rfl) rfl #[.int .i64 a0] rfl (by (try simp only [List.map_toArray, List.map_cons, List.map_nil]); first | done | rfl | (simp only [List.length_drop, List.length_take]; rfl)) ?_; (with_reducible refine (armadaref02_Is.calls a0 true _ A4.out).mono ?_); rintro e w' ⟨rfl, ⟨nd, rfl⟩⟩; refine ⟨_, rfl, ?_⟩) | (go_at_call 16; (with_reducible refine (armadaref02_Is.calls a0 true _ A4.out).mono ?_); rintro e w' ⟨rfl, ⟨nd, rfl⟩⟩) | (go_at_call 16; (with_reducible refine (armadaref02_Is.calls a1 true _ A6.out).mono ?_); rintro e w' ⟨rfl, ⟨nd, rfl⟩⟩))
          go_ret
          exact ⟨by first | rfl | (simp; done) | (simp [*]; done), by repeat (first | exact Drawn0.refl _ | apply Drawn0.step)⟩
    · replace c7 := Bool.eq_false_iff.mpr c7
      subst c7
      have H1 : (some 0) = some r := by rw [if_neg (show ¬ (false = true) by decide)] at H; exact H
      clear H
      have H := H1
      clear H1
      obtain rfl := Option.some.inj H
      go_enter Try.func14, Try.ntmps14
      go_wp2_with (first | ((with_reducible refine gate_callee (f := 16) rfl ?_); refine goesL_ (some 10) rfl rfl Try.func16 (by kernel_rfl) rfl #[.int .i64 a0] rfl (by (try simp only [List.map_toArray, List.map_cons, List.map_nil]); first | done | rfl | (simp only [List.length_drop, List.length_take]; rfl)) ?_; (with_reducible refine (armadaref02_Is.calls a0 true _ A4.out).mono ?_); rintro e w' ⟨rfl, ⟨nd, rfl⟩⟩; refine ⟨_, rfl, ?_⟩) | (go_at_call 16; (with_reducible refine (armadaref02_Is.calls a0 true _ A4.out).mono ?_); rintro e w' ⟨rfl, ⟨nd, rfl⟩⟩) | (go_at_call 16; (with_reducible refine (armadaref02_Is.calls a1 false _ A6.out).mono ?_); rintro e w' ⟨rfl, ⟨nd, rfl⟩⟩))
      go_ret
      exact ⟨by first | rfl | (simp; done) | (simp [*]; done), by repeat (first | exact Drawn0.refl _ | apply Drawn0.step)⟩
  · replace c5 := Bool.eq_false_iff.mpr c5
    subst c5
    have H1 : (some 0) = some r := by rw [if_neg (show ¬ (false = true) by decide)] at H; exact H
    clear H
    have H := H1
    clear H1
    obtain rfl := Option.some.inj H
    go_enter Try.func14, Try.ntmps14
    go_wp2_with (first | ((with_reducible refine gate_callee (f := 16) rfl ?_); refine goesL_ (some 10) rfl rfl Try.func16 (by kernel_rfl) rfl #[.int .i64 a0] rfl (by (try simp only [List.map_toArray, List.map_cons, List.map_nil]); first | done | rfl | (simp only [List.length_drop, List.length_take]; rfl)) ?_; (with_reducible refine (armadaref02_Is.calls a0 false _ A4.out).mono ?_); rintro e w' ⟨rfl, ⟨nd, rfl⟩⟩; refine ⟨_, rfl, ?_⟩) | (go_at_call 16; (with_reducible refine (armadaref02_Is.calls a0 false _ A4.out).mono ?_); rintro e w' ⟨rfl, ⟨nd, rfl⟩⟩))
    go_ret
    exact ⟨by first | rfl | (simp; done) | (simp [*]; done), by repeat (first | exact Drawn0.refl _ | apply Drawn0.step)⟩

-- NOT PRINTED: function 3 (armadalaw02_SumTells)

/-! ### armadalaw02_SumParts: function 4 -/
def armadalaw02_SumParts.j0 : Nat → ByteArray → ByteArray → Bool → Option (Bool)
  | 0, _, _, _ => none
  | k + 1, x0, x1, x13 => if x13 = true then ((armadalaw02_live.f k).bind fun t125 => (some t125)) else (if x0.size + x1.size ≤ 9223372036854775807 then ((sum_Of.f k (x0 ++ x1)).bind fun t126 => ((sum_Of.f k x0).bind fun t127 => ((sum_Roll.f k t127 x1).bind fun t128 => (if t126 = t128 then ((sum_Of.f k x1).bind fun t129 => ((sum_Join.f t127 t129 (x1.size : Int)).bind fun t130 => (if t126 = t130 then ((armadalaw02_live.f k).bind fun t131 => (some t131)) else (some false)))) else (some false))))) else (none))
def armadalaw02_SumParts.f (k : Nat) (a0 : ByteArray) (a1 : ByteArray) : Option (Bool) := if (a0.size : Int) > 70000 then (armadalaw02_SumParts.j0 k a0 a1 true) else (armadalaw02_SumParts.j0 k a0 a1 (decide ((a1.size : Int) > 70000)))
theorem armadalaw02_SumParts.mono_l : ∀ k, (∀ y0 y1 y2, LeO (armadalaw02_SumParts.j0 k y0 y1 y2) (armadalaw02_SumParts.j0 (k + 1) y0 y1 y2))
  | 0 => fun _ _ _ r h => by simp [armadalaw02_SumParts.j0] at h
  | k + 1 => by
    have ih0 := armadalaw02_SumParts.mono_l k
    · intro y0 y1 y2
      unfold armadalaw02_SumParts.j0
      repeat' first
      | (with_reducible exact ih0 _ _ _)
      | (with_reducible exact armadalaw02_live.mono _)
      | (with_reducible exact sum_Of.mono _ _)
      | (with_reducible exact sum_Roll.mono _ _ _)
      | (with_reducible exact LeO.refl _)
      | (with_reducible exact LeO.none _)
      | (with_reducible refine LeO.ite ?_ ?_)
      | (with_reducible refine LeO.bind ?_ (fun _ => ?_))
      | exact ih0 _ _ _
      | exact armadalaw02_live.mono _
      | exact sum_Of.mono _ _
      | exact sum_Roll.mono _ _ _
      | exact LeO.none _
      | refine LeO.ite ?_ ?_
      | refine LeO.bind ?_ (fun _ => ?_)
theorem armadalaw02_SumParts.mono : ∀ a0 a1 k, LeO (armadalaw02_SumParts.f k a0 a1) (armadalaw02_SumParts.f (k + 1) a0 a1) := by
  intro a0 a1 k
  have ih0 := armadalaw02_SumParts.mono_l k
  unfold armadalaw02_SumParts.f
  repeat' first
      | (with_reducible exact ih0 _ _ _)
      | (with_reducible exact armadalaw02_live.mono _)
      | (with_reducible exact sum_Of.mono _ _)
      | (with_reducible exact sum_Roll.mono _ _ _)
      | (with_reducible exact LeO.refl _)
      | (with_reducible exact LeO.none _)
      | (with_reducible refine LeO.ite ?_ ?_)
      | (with_reducible refine LeO.bind ?_ (fun _ => ?_))
      | exact ih0 _ _ _
      | exact armadalaw02_live.mono _
      | exact sum_Of.mono _ _
      | exact sum_Roll.mono _ _ _
      | exact LeO.none _
      | refine LeO.ite ?_ ?_
      | refine LeO.bind ?_ (fun _ => ?_)
set_option maxHeartbeats 8000000 in
set_option maxRecDepth 100000 in
theorem armadalaw02_SumParts.calls (k : Nat) (a0 : ByteArray) (a1 : ByteArray) (r : Bool) (w : World) (h : armadalaw02_SumParts.f k a0 a1 = some r) :
    Calls Try.prog 4 #[.string a0, .string a1] w fun e w' => e = .returned (.bool r) ∧ Drawn0 w w' := by
  have H : (if (a0.size : Int) > 70000 then (armadalaw02_SumParts.j0 k a0 a1 true) else (armadalaw02_SumParts.j0 k a0 a1 (decide ((a1.size : Int) > 70000)))) = some r := h
  clear h
  have HC3 := Aside0.mk H
  clear H
  go_enter Try.func4, Try.ntmps4
  go_upto_region 1 with (fail)
  go_cut [13] (fun v13 wc => ∃ (kq : Nat) (x13_2 : Bool), v13 = .bool x13_2 ∧ Aside0 (armadalaw02_SumParts.j0 kq a0 a1 x13_2 = some r) ∧ Aside0 (kq ≤ k) ∧ Drawn0 w wc)
  case first =>
    have H := HC3.out
    clear HC3
    by_cases c4 : (a0.size : Int) > 70000
    · rw [if_pos c4] at H
      have c4b0 : decide (70000 < (a0.size : Int)) = true := decide_eq_true c4
      have c4b1 : decide (70000 < a0.size) = true := decide_eq_true (by omega)
      clear c4
      (first | rw [c4b0] | (simp only [i64_w, i32_w]; rw [c4b0]) | skip)
      have H' := Aside0.mk H
      clear H
      go_wp2
      go_meet
      case rel => exact ⟨_, (true), (by first | rfl | (simp; done) | (simp [*]; done)), H', ⟨by first | omega | exact Nat.le_refl _⟩, by repeat (first | exact Drawn0.refl _ | apply Drawn0.step)⟩
    · rw [if_neg c4] at H
      have c4b0 : decide (70000 < (a0.size : Int)) = false := decide_eq_false c4
      have c4b1 : decide (70000 < a0.size) = false := decide_eq_false (by omega)
      clear c4
      (first | rw [c4b0] | (simp only [i64_w, i32_w]; rw [c4b0]) | skip)
      have H' := Aside0.mk H
      clear H
      go_wp2
      go_meet
      case rel => exact ⟨_, (decide ((a1.size : Int) > 70000)), (by first | rfl | (simp; done) | (simp [*]; done)), H', ⟨by first | omega | exact Nat.le_refl _⟩, by repeat (first | exact Drawn0.refl _ | apply Drawn0.step)⟩
  case rest =>
    clear HC3
    try clear p2
    try clear c4
    try clear c4b0
    try clear c4b1
    obtain ⟨kq, x13_2, rfl, HA, HJ2, ⟨mc2, rfl⟩⟩ := hcut
    cases kq with
    | zero => exact absurd HA.out (by simp [armadalaw02_SumParts.j0])
    | succ kj2 =>
      have H := HA.out
      clear HA
      simp only [armadalaw02_SumParts.j0] at H
      by_cases c5 : x13_2 = true
      · subst c5
        have H1 : ((armadalaw02_live.f kj2).bind fun t125 => (some t125)) = some r := by rw [if_pos rfl] at H; exact H
        clear H
        have H := H1
        clear H1
        replace H := Option.bind_eq_some_iff.mp H
        obtain ⟨t125, A60, H⟩ := H
        replace H : (some t125) = some r := H
        have A6 := Aside0.mk A60
        clear A60
        obtain rfl := Option.some.inj H
        go_wp2_with (first | ((with_reducible refine gate_callee (f := 8) rfl ?_); refine goesL_ (some 14) rfl rfl Try.func8 (by kernel_rfl) rfl #[] rfl (by (try simp only [List.map_toArray, List.map_cons, List.map_nil]); first | done | rfl | (simp only [List.length_drop, List.length_take]; rfl)) ?_; (with_reducible refine (armadalaw02_live.calls kj2  t125 _ A6.out).mono ?_); rintro e w' ⟨rfl, ⟨nd, rfl⟩⟩; refine ⟨_, rfl, ?_⟩) | (go_at_call 8; (with_reducible refine (armadalaw02_live.calls kj2  t125 _ A6.out).mono ?_); rintro e w' ⟨rfl, ⟨nd, rfl⟩⟩))
        go_ret
        exact ⟨by first | rfl | (simp; done) | (simp [*]; done), by repeat (first | exact Drawn0.refl _ | apply Drawn0.step)⟩
      · replace c5 := Bool.eq_false_iff.mpr c5
        subst c5
        have H1 : (if a0.size + a1.size ≤ 9223372036854775807 then ((sum_Of.f kj2 (a0 ++ a1)).bind fun t126 => ((sum_Of.f kj2 a0).bind fun t127 => ((sum_Roll.f kj2 t127 a1).bind fun t128 => (if t126 = t128 then ((sum_Of.f kj2 a1).bind fun t129 => ((sum_Join.f t127 t129 (a1.size : Int)).bind fun t130 => (if t126 = t130 then ((armadalaw02_live.f kj2).bind fun t131 => (some t131)) else (some false)))) else (some false))))) else (none)) = some r := by rw [if_neg (show ¬ (false = true) by decide)] at H; exact H
        clear H
        have H := H1
        clear H1
        by_cases c7 : a0.size + a1.size ≤ 9223372036854775807
        · rw [if_pos c7] at H
          have c7b0 := eq_true c7
          have c7b1 : decide (a0.size + a1.size ≤ 9223372036854775807) = true := decide_eq_true c7
          try have c7b2 : (9223372036854775807 < a0.size + a1.size) = False := eq_false (Nat.not_lt.2 c7)
          replace H := Option.bind_eq_some_iff.mp H
          obtain ⟨t126, A80, H⟩ := H
          replace H : ((sum_Of.f kj2 a0).bind fun t127 => ((sum_Roll.f kj2 t127 a1).bind fun t128 => (if t126 = t128 then ((sum_Of.f kj2 a1).bind fun t129 => ((sum_Join.f t127 t129 (a1.size : Int)).bind fun t130 => (if t126 = t130 then ((armadalaw02_live.f kj2).bind fun t131 => (some t131)) else (some false)))) else (some false)))) = some r := H
          have A8 := Aside0.mk A80
          clear A80
          replace H := Option.bind_eq_some_iff.mp H
          obtain ⟨t127, A90, H⟩ := H
          replace H : ((sum_Roll.f kj2 t127 a1).bind fun t128 => (if t126 = t128 then ((sum_Of.f kj2 a1).bind fun t129 => ((sum_Join.f t127 t129 (a1.size : Int)).bind fun t130 => (if t126 = t130 then ((armadalaw02_live.f kj2).bind fun t131 => (some t131)) else (some false)))) else (some false))) = some r := H
          have A9 := Aside0.mk A90
          clear A90
          replace H := Option.bind_eq_some_iff.mp H
          obtain ⟨t128, A100, H⟩ := H
          replace H : (if t126 = t128 then ((sum_Of.f kj2 a1).bind fun t129 => ((sum_Join.f t127 t129 (a1.size : Int)).bind fun t130 => (if t126 = t130 then ((armadalaw02_live.f kj2).bind fun t131 => (some t131)) else (some false)))) else (some false)) = some r := H
          have A10 := Aside0.mk A100
          clear A100
          by_cases c11 : t126 = t128
          · rw [if_pos c11] at H
            have c11b0 : (t126 == t128) = true := beq_iff_eq.mpr c11
            have c11b1 : (t126 != t128) = false := bne_eq_false_iff_eq.mpr c11
            clear c11
            replace H := Option.bind_eq_some_iff.mp H
            obtain ⟨t129, A120, H⟩ := H
            replace H : ((sum_Join.f t127 t129 (a1.size : Int)).bind fun t130 => (if t126 = t130 then ((armadalaw02_live.f kj2).bind fun t131 => (some t131)) else (some false))) = some r := H
            have A12 := Aside0.mk A120
            clear A120
            replace H := Option.bind_eq_some_iff.mp H
            obtain ⟨t130, A130, H⟩ := H
            replace H : (if t126 = t130 then ((armadalaw02_live.f kj2).bind fun t131 => (some t131)) else (some false)) = some r := H
            have A13 := Aside0.mk A130
            clear A130
            by_cases c14 : t126 = t130
            · rw [if_pos c14] at H
              have c14b0 : (t126 == t130) = true := beq_iff_eq.mpr c14
              have c14b1 : (t126 != t130) = false := bne_eq_false_iff_eq.mpr c14
              clear c14
              replace H := Option.bind_eq_some_iff.mp H
              obtain ⟨t131, A150, H⟩ := H
              replace H : (some t131) = some r := H
              have A15 := Aside0.mk A150
              clear A150
              obtain rfl := Option.some.inj H
              go_wp2_with (first | ((with_reducible refine gate_callee (f := 9) rfl ?_); refine goesL_ (some 18) rfl rfl Try.func9 (by kernel_rfl) rfl #[.string (a0 ++ a1)] rfl (by (try simp only [List.map_toArray, List.map_cons, List.map_nil]); first | done | rfl | (simp only [List.length_drop, List.length_take]; rfl)) ?_; (with_reducible refine (sum_Of.calls kj2 (a0 ++ a1) t126 _ A8.out).mono ?_); rintro e w' ⟨rfl, ⟨nd, rfl⟩⟩; refine ⟨_, rfl, ?_⟩) | (go_at_call 9; (with_reducible refine (sum_Of.calls kj2 (a0 ++ a1) t126 _ A8.out).mono ?_); rintro e w' ⟨rfl, ⟨nd, rfl⟩⟩) | ((with_reducible refine gate_callee (f := 9) rfl ?_); refine goesL_ (some 21) rfl rfl Try.func9 (by kernel_rfl) rfl #[.string a0] rfl (by (try simp only [List.map_toArray, List.map_cons, List.map_nil]); first | done | rfl | (simp only [List.length_drop, List.length_take]; rfl)) ?_; (with_reducible refine (sum_Of.calls kj2 a0 t127 _ A9.out).mono ?_); rintro e w' ⟨rfl, ⟨nd, rfl⟩⟩; refine ⟨_, rfl, ?_⟩) | (go_at_call 9; (with_reducible refine (sum_Of.calls kj2 a0 t127 _ A9.out).mono ?_); rintro e w' ⟨rfl, ⟨nd, rfl⟩⟩) | ((with_reducible refine gate_callee (f := 11) rfl ?_); refine goesL_ (some 23) rfl rfl Try.func11 (by kernel_rfl) rfl #[.int .i64 t127, .string a1] rfl (by (try simp only [List.map_toArray, List.map_cons, List.map_nil]); first | done | rfl | (simp only [List.length_drop, List.length_take]; rfl)) ?_; (with_reducible refine (sum_Roll.calls kj2 t127 a1 t128 _ A10.out).mono ?_); rintro e w' ⟨rfl, ⟨nd, rfl⟩⟩; refine ⟨_, rfl, ?_⟩) | (go_at_call 11; (with_reducible refine (sum_Roll.calls kj2 t127 a1 t128 _ A10.out).mono ?_); rintro e w' ⟨rfl, ⟨nd, rfl⟩⟩) | (go_at_call 9; (with_reducible refine (sum_Of.calls kj2 a1 t129 _ A12.out).mono ?_); rintro e w' ⟨rfl, ⟨nd, rfl⟩⟩) | (go_at_call 13; (with_reducible refine (sum_Join.calls t127 t129 (a1.size : Int) t130 _ A13.out).mono ?_); rintro e w' ⟨rfl, ⟨nd, rfl⟩⟩) | (go_at_call 8; (with_reducible refine (armadalaw02_live.calls kj2  t131 _ A15.out).mono ?_); rintro e w' ⟨rfl, ⟨nd, rfl⟩⟩))
              go_ret
              exact ⟨by first | rfl | (simp; done) | (simp [*]; done), by repeat (first | exact Drawn0.refl _ | apply Drawn0.step)⟩
            · rw [if_neg c14] at H
              have c14b0 : (t126 == t130) = false := beq_eq_false_iff_ne.mpr c14
              have c14b1 : (t126 != t130) = true := bne_iff_ne.mpr c14
              obtain rfl := Option.some.inj H
              go_wp2_with (first | ((with_reducible refine gate_callee (f := 9) rfl ?_); refine goesL_ (some 18) rfl rfl Try.func9 (by kernel_rfl) rfl #[.string (a0 ++ a1)] rfl (by (try simp only [List.map_toArray, List.map_cons, List.map_nil]); first | done | rfl | (simp only [List.length_drop, List.length_take]; rfl)) ?_; (with_reducible refine (sum_Of.calls kj2 (a0 ++ a1) t126 _ A8.out).mono ?_); rintro e w' ⟨rfl, ⟨nd, rfl⟩⟩; refine ⟨_, rfl, ?_⟩) | (go_at_call 9; (with_reducible refine (sum_Of.calls kj2 (a0 ++ a1) t126 _ A8.out).mono ?_); rintro e w' ⟨rfl, ⟨nd, rfl⟩⟩) | ((with_reducible refine gate_callee (f := 9) rfl ?_); refine goesL_ (some 21) rfl rfl Try.func9 (by kernel_rfl) rfl #[.string a0] rfl (by (try simp only [List.map_toArray, List.map_cons, List.map_nil]); first | done | rfl | (simp only [List.length_drop, List.length_take]; rfl)) ?_; (with_reducible refine (sum_Of.calls kj2 a0 t127 _ A9.out).mono ?_); rintro e w' ⟨rfl, ⟨nd, rfl⟩⟩; refine ⟨_, rfl, ?_⟩) | (go_at_call 9; (with_reducible refine (sum_Of.calls kj2 a0 t127 _ A9.out).mono ?_); rintro e w' ⟨rfl, ⟨nd, rfl⟩⟩) | ((with_reducible refine gate_callee (f := 11) rfl ?_); refine goesL_ (some 23) rfl rfl Try.func11 (by kernel_rfl) rfl #[.int .i64 t127, .string a1] rfl (by (try simp only [List.map_toArray, List.map_cons, List.map_nil]); first | done | rfl | (simp only [List.length_drop, List.length_take]; rfl)) ?_; (with_reducible refine (sum_Roll.calls kj2 t127 a1 t128 _ A10.out).mono ?_); rintro e w' ⟨rfl, ⟨nd, rfl⟩⟩; refine ⟨_, rfl, ?_⟩) | (go_at_call 11; (with_reducible refine (sum_Roll.calls kj2 t127 a1 t128 _ A10.out).mono ?_); rintro e w' ⟨rfl, ⟨nd, rfl⟩⟩) | (go_at_call 9; (with_reducible refine (sum_Of.calls kj2 a1 t129 _ A12.out).mono ?_); rintro e w' ⟨rfl, ⟨nd, rfl⟩⟩) | (go_at_call 13; (with_reducible refine (sum_Join.calls t127 t129 (a1.size : Int) t130 _ A13.out).mono ?_); rintro e w' ⟨rfl, ⟨nd, rfl⟩⟩))
              go_ret
              exact ⟨by first | rfl | (simp; done) | (simp [*]; done), by repeat (first | exact Drawn0.refl _ | apply Drawn0.step)⟩
          · rw [if_neg c11] at H
            have c11b0 : (t126 == t128) = false := beq_eq_false_iff_ne.mpr c11
            have c11b1 : (t126 != t128) = true := bne_iff_ne.mpr c11
            obtain rfl := Option.some.inj H
            go_wp2_with (first | ((with_reducible refine gate_callee (f := 9) rfl ?_); refine goesL_ (some 18) rfl rfl Try.func9 (by kernel_rfl) rfl #[.string (a0 ++ a1)] rfl (by (try simp only [List.map_toArray, List.map_cons, List.map_nil]); first | done | rfl | (simp only [List.length_drop, List.length_take]; rfl)) ?_; (with_reducible refine (sum_Of.calls kj2 (a0 ++ a1) t126 _ A8.out).mono ?_); rintro e w' ⟨rfl, ⟨nd, rfl⟩⟩; refine ⟨_, rfl, ?_⟩) | (go_at_call 9; (with_reducible refine (sum_Of.calls kj2 (a0 ++ a1) t126 _ A8.out).mono ?_); rintro e w' ⟨rfl, ⟨nd, rfl⟩⟩) | ((with_reducible refine gate_callee (f := 9) rfl ?_); refine goesL_ (some 21) rfl rfl Try.func9 (by kernel_rfl) rfl #[.string a0] rfl (by (try simp only [List.map_toArray, List.map_cons, List.map_nil]); first | done | rfl | (simp only [List.length_drop, List.length_take]; rfl)) ?_; (with_reducible refine (sum_Of.calls kj2 a0 t127 _ A9.out).mono ?_); rintro e w' ⟨rfl, ⟨nd, rfl⟩⟩; refine ⟨_, rfl, ?_⟩) | (go_at_call 9; (with_reducible refine (sum_Of.calls kj2 a0 t127 _ A9.out).mono ?_); rintro e w' ⟨rfl, ⟨nd, rfl⟩⟩) | ((with_reducible refine gate_callee (f := 11) rfl ?_); refine goesL_ (some 23) rfl rfl Try.func11 (by kernel_rfl) rfl #[.int .i64 t127, .string a1] rfl (by (try simp only [List.map_toArray, List.map_cons, List.map_nil]); first | done | rfl | (simp only [List.length_drop, List.length_take]; rfl)) ?_; (with_reducible refine (sum_Roll.calls kj2 t127 a1 t128 _ A10.out).mono ?_); rintro e w' ⟨rfl, ⟨nd, rfl⟩⟩; refine ⟨_, rfl, ?_⟩) | (go_at_call 11; (with_reducible refine (sum_Roll.calls kj2 t127 a1 t128 _ A10.out).mono ?_); rintro e w' ⟨rfl, ⟨nd, rfl⟩⟩))
            go_ret
            exact ⟨by first | rfl | (simp; done) | (simp [*]; done), by repeat (first | exact Drawn0.refl _ | apply Drawn0.step)⟩
        · rw [if_neg c7] at H
          exact absurd H (by simp)

/-- THE ONE PURE STATEMENT of armadalaw02_SumParts: yours. -/
def armadalaw02_SumParts.Pure : Prop := ∀ (a0 : ByteArray) (a1 : ByteArray), a0.size ≤ 140737488351232 → a1.size ≤ 140737488351232 → ∃ k, armadalaw02_SumParts.f k a0 a1 = some true
theorem armadalaw02_SumParts.walk (P : armadalaw02_SumParts.Pure) (a0 : ByteArray) (a1 : ByteArray) (w : World) (w0 : a0.size ≤ 140737488351232) (w1 : a1.size ≤ 140737488351232) :
    Calls Try.prog 4 #[.string a0, .string a1] w fun e w' => e = .returned (.bool true) ∧ Below w.heap.size w w' := by
  obtain ⟨k, h⟩ := P a0 a1 w0 w1
  refine (armadalaw02_SumParts.calls k a0 a1 true w h).mono ?_
  rintro e w' ⟨rfl, hd⟩
  exact ⟨rfl, hd.below⟩

-- NOT PRINTED: function 5 (armadalaw02_SumOne)

end Go.Proofs.Ytgjgdahjjegbiaa.P
