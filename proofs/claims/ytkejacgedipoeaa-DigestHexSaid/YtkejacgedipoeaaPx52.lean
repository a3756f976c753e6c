-- PRINTED by print.py (a twelfth state) out of the translation. Not trusted: Lean checks it.
import Derived.Test.YtkejacgedipoeaaPx0
import Derived.Test.YtkejacgedipoeaaPx27
import Derived.Test.YtkejacgedipoeaaDHex
namespace Go.Proofs.Ytkejacgedipoeaa.P
open Go.RowKit Go.Proofs.YtkejacgedipoeaaW.PrintWords Go.Proofs.YtkejacgedipoeaaW.PrintLast Go.Proofs.YtkejacgedipoeaaW.PrintMore
attribute [local go_sem] max2_int min2_int max_two min_two max_three min_three max_four min_four   -- for this text's walks alone
set_option linter.unusedVariables false
set_option linter.unusedSimpArgs false

/-! ### armadalaw12_DigestHex: function 7 -/
def armadalaw12_DigestHex.j0 : Nat → ByteArray → ByteArray → Bool → Option (Bool)
  | 0, _, _, _ => none
  | k + 1, x0, x1, x14 => if x14 = true then ((armadalaw12_live.f).bind fun t336 => (some t336)) else ((digest_Hex.f x0).bind fun t337 => ((digest_Hex.f x1).bind fun t338 => (if (t337.size : Int) = (wrap64 (2 * (x0.size : Int))) then (if x0.size + x1.size ≤ 9223372036854775807 then ((digest_Hex.f (x0 ++ x1)).bind fun t339 => (if t337.size + t338.size ≤ 9223372036854775807 then (if t339.toList = (t337 ++ t338).toList then (if ((t337.toList == t338.toList) == (x0.toList == x1.toList)) = true then (if ((Op.bytesLess t337.toList t338.toList) == (Op.bytesLess x0.toList x1.toList)) = true then ((armadalaw12_live.f).bind fun t340 => (some t340)) else (some false)) else (some false)) else (some false)) else (none))) else (none)) else (some false))))
def armadalaw12_DigestHex.f (k : Nat) (a0 : ByteArray) (a1 : ByteArray) : Option (Bool) := if (a0.size : Int) > 2000 then (armadalaw12_DigestHex.j0 k a0 a1 true) else (armadalaw12_DigestHex.j0 k a0 a1 (decide ((a1.size : Int) > 2000)))
theorem armadalaw12_DigestHex.mono_l : ∀ k, (∀ y0 y1 y2, LeO (armadalaw12_DigestHex.j0 k y0 y1 y2) (armadalaw12_DigestHex.j0 (k + 1) y0 y1 y2))
  | 0 => fun _ _ _ r h => by simp [armadalaw12_DigestHex.j0] at h
  | k + 1 => by
    have ih0 := armadalaw12_DigestHex.mono_l k
    · intro y0 y1 y2
      unfold armadalaw12_DigestHex.j0
      repeat' first
      | (with_reducible exact ih0 _ _ _)
      | (with_reducible exact LeO.refl _)
      | (with_reducible exact LeO.none _)
      | (with_reducible refine LeO.ite ?_ ?_)
      | (with_reducible refine LeO.bind ?_ (fun _ => ?_))
      | exact ih0 _ _ _
      | exact LeO.none _
      | refine LeO.ite ?_ ?_
      | refine LeO.bind ?_ (fun _ => ?_)
theorem armadalaw12_DigestHex.mono : ∀ a0 a1 k, LeO (armadalaw12_DigestHex.f k a0 a1) (armadalaw12_DigestHex.f (k + 1) a0 a1) := by
  intro a0 a1 k
  have ih0 := armadalaw12_DigestHex.mono_l k
  unfold armadalaw12_DigestHex.f
  repeat' first
      | (with_reducible exact ih0 _ _ _)
      | (with_reducible exact LeO.refl _)
      | (with_reducible exact LeO.none _)
      | (with_reducible refine LeO.ite ?_ ?_)
      | (with_reducible refine LeO.bind ?_ (fun _ => ?_))
      | exact ih0 _ _ _
      | exact LeO.none _
      | refine LeO.ite ?_ ?_
      | refine LeO.bind ?_ (fun _ => ?_)
set_option maxHeartbeats 8000000 in
set_option maxRecDepth 100000 in
theorem armadalaw12_DigestHex.calls (k : Nat) (a0 : ByteArray) (a1 : ByteArray) (r : Bool) (w : World) (h : armadalaw12_DigestHex.f k a0 a1 = some r) (hT_ : r = true := by rfl) :
    Calls Try.prog 7 #[.string a0, .string a1] w fun e w' => e = .returned (.bool r) ∧ Below w.heap.size w w' := by
  subst hT_
  have HB := Aside0.mk (Below.refl w.heap.size w)
  have H : (if (a0.size : Int) > 2000 then (armadalaw12_DigestHex.j0 k a0 a1 true) else (armadalaw12_DigestHex.j0 k a0 a1 (decide ((a1.size : Int) > 2000)))) = some true := h
  clear h
  have HC3 := Aside0.mk H
  clear H
  go_enter Try.func7, Try.ntmps7
  go_upto_region 1 with (fail)
  go_cut [14] (fun v14 wc => ∃ (kq : Nat) (x14_2 : Bool), v14 = .bool x14_2 ∧ Aside0 (armadalaw12_DigestHex.j0 kq a0 a1 x14_2 = some true) ∧ Aside0 (kq ≤ k) ∧ Aside0 (Below w.heap.size w wc))
  case first =>
    have H := HC3.out
    clear HC3
    by_cases c4 : (a0.size : Int) > 2000
    · rw [if_pos c4] at H
      have c4b0 : decide (2000 < (a0.size : Int)) = true := decide_eq_true c4
      have c4b1 : decide (2000 < a0.size) = true := decide_eq_true (by omega)
      clear c4
      (first | rw [c4b0] | (simp only [i64_w, i32_w]; rw [c4b0]) | skip)
      have H' := Aside0.mk H
      clear H
      go_wp2
      go_meet
      case rel => exact ⟨_, (true), (by first | rfl | (simp; done) | (simp [*]; done)), H', ⟨by first | omega | exact Nat.le_refl _⟩, ⟨by repeat (first | (with_reducible first | exact HB.out | apply below_alloc | apply pw_below_drewN | apply below_drew1) | exact HB.out)⟩⟩
    · rw [if_neg c4] at H
      have c4b0 : decide (2000 < (a0.size : Int)) = false := decide_eq_false c4
      have c4b1 : decide (2000 < a0.size) = false := decide_eq_false (by omega)
      clear c4
      (first | rw [c4b0] | (simp only [i64_w, i32_w]; rw [c4b0]) | skip)
      have H' := Aside0.mk H
      clear H
      go_wp2
      go_meet
      case rel => exact ⟨_, (decide ((a1.size : Int) > 2000)), (by first | rfl | (simp; done) | (simp [*]; done)), H', ⟨by first | omega | exact Nat.le_refl _⟩, ⟨by repeat (first | (with_reducible first | exact HB.out | apply below_alloc | apply pw_below_drewN | apply below_drew1) | exact HB.out)⟩⟩
  case rest =>
    clear HC3
    try clear p2
    try clear c4
    try clear c4b0
    try clear c4b1
    obtain ⟨kq, x14_2, rfl, HA, HJ2, HB⟩ := hcut
    cases kq with
    | zero => exact absurd HA.out (by simp [armadalaw12_DigestHex.j0])
    | succ kj2 =>
      have H := HA.out
      clear HA
      simp only [armadalaw12_DigestHex.j0] at H
      by_cases c5 : x14_2 = true
      · subst c5
        have H1 : ((armadalaw12_live.f).bind fun t336 => (some t336)) = some true := by rw [if_pos rfl] at H; exact H
        clear H
        have H := H1
        clear H1
        replace H := Option.bind_eq_some_iff.mp H
        obtain ⟨t336, A60, H⟩ := H
        replace H : (some t336) = some true := H
        have A6 := Aside0.mk A60
        clear A60
        obtain rfl := Option.some.inj H
        go_wp2_with (first | ((with_reducible refine gate_callee (f := 8) rfl ?_); refine goesL_ (some 15) rfl rfl Try.func8 (by kernel_rfl) rfl #[] rfl (by (try simp only [List.map_toArray, List.map_cons, List.map_nil]); first | done | rfl | (simp only [List.length_drop, List.length_take]; rfl)) ?_; (with_reducible refine (armadalaw12_live.calls  true _ A6.out).mono ?_); rintro e w7 ⟨rfl, hb⟩; refine ⟨_, rfl, ?_⟩; have n0_ := Aside0.mk (below_step (by repeat (first | (with_reducible first | exact HB.out | apply below_alloc | apply pw_below_drewN | apply below_drew1) | exact HB.out)) hb); clear HB; have HB := n0_; clear n0_; (try clear hb); (try clear hb2); (try clear hk); (try clear hi)))
        go_ret
        exact ⟨by first | rfl | (simp [errW_none, errW_some] <;> rfl) | (simp [*, errW_none, errW_some] <;> rfl), by repeat (first | (with_reducible first | exact HB.out | apply below_alloc | apply pw_below_drewN | apply below_drew1) | exact HB.out)⟩
      · replace c5 := Bool.eq_false_iff.mpr c5
        subst c5
        have H1 : ((digest_Hex.f a0).bind fun t337 => ((digest_Hex.f a1).bind fun t338 => (if (t337.size : Int) = (wrap64 (2 * (a0.size : Int))) then (if a0.size + a1.size ≤ 9223372036854775807 then ((digest_Hex.f (a0 ++ a1)).bind fun t339 => (if t337.size + t338.size ≤ 9223372036854775807 then (if t339.toList = (t337 ++ t338).toList then (if ((t337.toList == t338.toList) == (a0.toList == a1.toList)) = true then (if ((Op.bytesLess t337.toList t338.toList) == (Op.bytesLess a0.toList a1.toList)) = true then ((armadalaw12_live.f).bind fun t340 => (some t340)) else (some false)) else (some false)) else (some false)) else (none))) else (none)) else (some false)))) = some true := by rw [if_neg (show ¬ (false = true) by decide)] at H; exact H
        clear H
        have H := H1
        clear H1
        replace H := Option.bind_eq_some_iff.mp H
        obtain ⟨t337, A80, H⟩ := H
        replace H : ((digest_Hex.f a1).bind fun t338 => (if (t337.size : Int) = (wrap64 (2 * (a0.size : Int))) then (if a0.size + a1.size ≤ 9223372036854775807 then ((digest_Hex.f (a0 ++ a1)).bind fun t339 => (if t337.size + t338.size ≤ 9223372036854775807 then (if t339.toList = (t337 ++ t338).toList then (if ((t337.toList == t338.toList) == (a0.toList == a1.toList)) = true then (if ((Op.bytesLess t337.toList t338.toList) == (Op.bytesLess a0.toList a1.toList)) = true then ((armadalaw12_live.f).bind fun t340 => (some t340)) else (some false)) else (some false)) else (some false)) else (none))) else (none)) else (some false))) = some true := H
        have A8 := Aside0.mk A80
        clear A80
        replace H := Option.bind_eq_some_iff.mp H
        obtain ⟨t338, A90, H⟩ := H
        replace H : (if (t337.size : Int) = (wrap64 (2 * (a0.size : Int))) then (if a0.size + a1.size ≤ 9223372036854775807 then ((digest_Hex.f (a0 ++ a1)).bind fun t339 => (if t337.size + t338.size ≤ 9223372036854775807 then (if t339.toList = (t337 ++ t338).toList then (if ((t337.toList == t338.toList) == (a0.toList == a1.toList)) = true then (if ((Op.bytesLess t337.toList t338.toList) == (Op.bytesLess a0.toList a1.toList)) = true then ((armadalaw12_live.f).bind fun t340 => (some t340)) else (some false)) else (some false)) else (some false)) else (none))) else (none)) else (some false)) = some true := H
        have A9 := Aside0.mk A90
        clear A90
        by_cases c10 : (t337.size : Int) = (wrap64 (2 * (a0.size : Int)))
        · rw [if_pos c10] at H
          have c10b0 : ((t337.size : Int) == (wrap64 (2 * (a0.size : Int)))) = true := beq_iff_eq.mpr c10
          have c10b1 : ((t337.size : Int) != (wrap64 (2 * (a0.size : Int)))) = false := bne_eq_false_iff_eq.mpr c10
          clear c10
          by_cases c11 : a0.size + a1.size ≤ 9223372036854775807
          · rw [if_pos c11] at H
            have c11b0 := eq_true c11
            have c11b1 : decide (a0.size + a1.size ≤ 9223372036854775807) = true := decide_eq_true c11
            try have c11b2 : (9223372036854775807 < a0.size + a1.size) = False := eq_false (Nat.not_lt.2 c11)
            replace H := Option.bind_eq_some_iff.mp H
            obtain ⟨t339, A120, H⟩ := H
            replace H : (if t337.size + t338.size ≤ 9223372036854775807 then (if t339.toList = (t337 ++ t338).toList then (if ((t337.toList == t338.toList) == (a0.toList == a1.toList)) = true then (if ((Op.bytesLess t337.toList t338.toList) == (Op.bytesLess a0.toList a1.toList)) = true then ((armadalaw12_live.f).bind fun t340 => (some t340)) else (some false)) else (some false)) else (some false)) else (none)) = some true := H
            have A12 := Aside0.mk A120
            clear A120
            by_cases c13 : t337.size + t338.size ≤ 9223372036854775807
            · rw [if_pos c13] at H
              have c13b0 := eq_true c13
              have c13b1 : decide (t337.size + t338.size ≤ 9223372036854775807) = true := decide_eq_true c13
              try have c13b2 : (9223372036854775807 < t337.size + t338.size) = False := eq_false (Nat.not_lt.2 c13)
              by_cases c14 : t339.toList = (t337 ++ t338).toList
              · rw [if_pos c14] at H
                have c14b0 : (t339.toList == (t337 ++ t338).toList) = true := beq_iff_eq.mpr c14
                have c14b1 : (t339.toList != (t337 ++ t338).toList) = false := bne_eq_false_iff_eq.mpr c14
                clear c14
                by_cases c15 : ((t337.toList == t338.toList) == (a0.toList == a1.toList)) = true
                · rw [if_pos c15] at H
                  have c15b0 : ((t337.toList == t338.toList) == (a0.toList == a1.toList)) = true := c15
                  (try (have c15b1 : decide ((t337.toList == t338.toList) = (a0.toList == a1.toList)) = true := by simpa using c15))
                  (try (have c15b2 : ((t337.toList == t338.toList) == (a0.toList == a1.toList)) = true := by simpa using c15))
                  clear c15
                  by_cases c16 : ((Op.bytesLess t337.toList t338.toList) == (Op.bytesLess a0.toList a1.toList)) = true
                  · rw [if_pos c16] at H
                    have c16b0 : ((Op.bytesLess t337.toList t338.toList) == (Op.bytesLess a0.toList a1.toList)) = true := c16
                    (try (have c16b1 : decide ((Op.bytesLess t337.toList t338.toList) = (Op.bytesLess a0.toList a1.toList)) = true := by simpa using c16))
                    (try (have c16b2 : ((Op.bytesLess t337.toList t338.toList) == (Op.bytesLess a0.toList a1.toList)) = true := by simpa using c16))
                    clear c16
                    replace H := Option.bind_eq_some_iff.mp H
                    obtain ⟨t340, A170, H⟩ := H
                    replace H : (some t340) = some true := H
                    have A17 := Aside0.mk A170
                    clear A170
                    obtain rfl := Option.some.inj H
                    go_wp2_with (first | ((with_reducible refine gate_callee (f := 13) rfl ?_); refine goesL_ (some 17) rfl rfl Try.func13 (by kernel_rfl) rfl #[.string a0] rfl (by (try simp only [List.map_toArray, List.map_cons, List.map_nil]); first | done | rfl | (simp only [List.length_drop, List.length_take]; rfl)) ?_; (with_reducible refine (digest_Hex.calls a0 t337 _ A8.out).mono ?_); rintro e w18 ⟨rfl, hb⟩; refine ⟨_, rfl, ?_⟩; have n0_ := Aside0.mk (below_step (by repeat (first | (with_reducible first | exact HB.out | apply below_alloc | apply pw_below_drewN | apply below_drew1) | exact HB.out)) hb); clear HB; have HB := n0_; clear n0_; (try clear hb); (try clear hb2); (try clear hk); (try clear hi)) | ((with_reducible refine gate_callee (f := 13) rfl ?_); refine goesL_ (some 19) rfl rfl Try.func13 (by kernel_rfl) rfl #[.string a1] rfl (by (try simp only [List.map_toArray, List.map_cons, List.map_nil]); first | done | rfl | (simp only [List.length_drop, List.length_take]; rfl)) ?_; (with_reducible refine (digest_Hex.calls a1 t338 _ A9.out).mono ?_); rintro e w19 ⟨rfl, hb⟩; refine ⟨_, rfl, ?_⟩; have n0_ := Aside0.mk (below_step (by repeat (first | (with_reducible first | exact HB.out | apply below_alloc | apply pw_below_drewN | apply below_drew1) | exact HB.out)) hb); clear HB; have HB := n0_; clear n0_; (try clear hb); (try clear hb2); (try clear hk); (try clear hi)) | (go_at_call 13; (with_reducible refine (digest_Hex.calls (a0 ++ a1) t339 _ A12.out).mono ?_); rintro e w20 ⟨rfl, hb⟩; have n0_ := Aside0.mk (below_step (by repeat (first | (with_reducible first | exact HB.out | apply below_alloc | apply pw_below_drewN | apply below_drew1) | exact HB.out)) hb); clear HB; have HB := n0_; clear n0_; (try clear hb); (try clear hb2); (try clear hk); (try clear hi)) | (go_at_call 8; (with_reducible refine (armadalaw12_live.calls  true _ A17.out).mono ?_); rintro e w21 ⟨rfl, hb⟩; have n0_ := Aside0.mk (below_step (by repeat (first | (with_reducible first | exact HB.out | apply below_alloc | apply pw_below_drewN | apply below_drew1) | exact HB.out)) hb); clear HB; have HB := n0_; clear n0_; (try clear hb); (try clear hb2); (try clear hk); (try clear hi)))
                    go_ret
                    exact ⟨by first | rfl | (simp [errW_none, errW_some] <;> rfl) | (simp [*, errW_none, errW_some] <;> rfl), by repeat (first | (with_reducible first | exact HB.out | apply below_alloc | apply pw_below_drewN | apply below_drew1) | exact HB.out)⟩
                  · rw [if_neg c16] at H
                    have c16b0 : ((Op.bytesLess t337.toList t338.toList) == (Op.bytesLess a0.toList a1.toList)) = false := by simpa using c16
                    (try (have c16b1 : decide ((Op.bytesLess t337.toList t338.toList) = (Op.bytesLess a0.toList a1.toList)) = false := by simpa using c16))
                    (try (have c16b2 : ((Op.bytesLess t337.toList t338.toList) == (Op.bytesLess a0.toList a1.toList)) = false := by simpa using c16))
                    (try (have c16b3 : ¬ ((Op.bytesLess t337.toList t338.toList) = (Op.bytesLess a0.toList a1.toList)) := by simpa using c16))
                    clear c16
                    exact absurd H (by simp)
                · rw [if_neg c15] at H
                  have c15b0 : ((t337.toList == t338.toList) == (a0.toList == a1.toList)) = false := by simpa using c15
                  (try (have c15b1 : decide ((t337.toList == t338.toList) = (a0.toList == a1.toList)) = false := by simpa using c15))
                  (try (have c15b2 : ((t337.toList == t338.toList) == (a0.toList == a1.toList)) = false := by simpa using c15))
                  (try (have c15b3 : ¬ ((t337.toList == t338.toList) = (a0.toList == a1.toList)) := by simpa using c15))
                  clear c15
                  exact absurd H (by simp)
              · rw [if_neg c14] at H
                have c14b0 : (t339.toList == (t337 ++ t338).toList) = false := beq_eq_false_iff_ne.mpr c14
                have c14b1 : (t339.toList != (t337 ++ t338).toList) = true := bne_iff_ne.mpr c14
                exact absurd H (by simp)
            · rw [if_neg c13] at H
              exact absurd H (by simp)
          · rw [if_neg c11] at H
            exact absurd H (by simp)
        · rw [if_neg c10] at H
          have c10b0 : ((t337.size : Int) == (wrap64 (2 * (a0.size : Int)))) = false := beq_eq_false_iff_ne.mpr c10
          have c10b1 : ((t337.size : Int) != (wrap64 (2 * (a0.size : Int)))) = true := bne_iff_ne.mpr c10
          exact absurd H (by simp)

/-- THE ONE PURE STATEMENT of armadalaw12_DigestHex: yours. -/
def armadalaw12_DigestHex.Pure : Prop := ∀ (a0 : ByteArray) (a1 : ByteArray), a0.size ≤ 140737488351232 → a1.size ≤ 140737488351232 → ∃ k, armadalaw12_DigestHex.f k a0 a1 = some true
theorem armadalaw12_DigestHex.walk (P : armadalaw12_DigestHex.Pure) (a0 : ByteArray) (a1 : ByteArray) (w : World) (w0 : a0.size ≤ 140737488351232) (w1 : a1.size ≤ 140737488351232) :
    Calls Try.prog 7 #[.string a0, .string a1] w fun e w' => e = .returned (.bool true) ∧ Below w.heap.size w w' := by
  obtain ⟨k, h⟩ := P a0 a1 w0 w1
  refine (armadalaw12_DigestHex.calls k a0 a1 true w h).mono ?_
  rintro e w' ⟨rfl, hd⟩
  exact ⟨rfl, hd⟩

end Go.Proofs.Ytkejacgedipoeaa.P
