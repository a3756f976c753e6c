-- PRINTED by print.py (a twelfth state) out of the translation. Not trusted: Lean checks it.
import Derived.Test.YtkejacgedipoeaaPx0
import Derived.Test.YtkejacgedipoeaaPx27
import Derived.Test.YtkejacgedipoeaaPx34
import Derived.Test.YtkejacgedipoeaaPx35
import Derived.Test.YtkejacgedipoeaaPx37
import Derived.Test.YtkejacgedipoeaaPx38
import Derived.Test.YtkejacgedipoeaaDBlock
import Derived.Test.YtkejacgedipoeaaDHex
import Derived.Test.YtkejacgedipoeaaDOf
import Derived.Test.YtkejacgedipoeaaDPad
namespace Go.Proofs.Ytkejacgedipoeaa.P
open Go.RowKit Go.Proofs.YtkejacgedipoeaaW.PrintWords Go.Proofs.YtkejacgedipoeaaW.PrintLast Go.Proofs.YtkejacgedipoeaaW.PrintMore
attribute [local go_sem] max2_int min2_int max_two min_two max_three min_three max_four min_four   -- for this text's walks alone
set_option linter.unusedVariables false
set_option linter.unusedSimpArgs false

/-! ### armadalaw12_DigestTells: function 3 -/
def armadalaw12_DigestTells.j0 : Nat → ByteArray → ByteArray → Int → Bool → Option (Bool)
  | 0, _, _, _, _ => none
  | k + 1, x0, x1, x2, x18 => if x18 = true then ((armadalaw12_live.f).bind fun t238 => (some t238)) else ((digest_Block.f x1 x0).bind fun bt239 => ((armadaref12_Block.f k x1 x0).bind fun bt241 => ((digest_Of.f x0).bind fun t243 => ((armadaref12_Of.f k x0).bind fun t244 => (if t243.toList = t244.toList then ((digest_Hex.f x0).bind fun t245 => ((armadaref12_Hex.f k x0).bind fun t246 => (if t245.toList = t246.toList then ((digest_Pad.f x2).bind fun t247 => ((armadaref12_Pad.f k x2).bind fun t248 => (if t247.toList = t248.toList then (if bt239.1.toList = bt241.1.toList then (if (bt239.2 == bt241.2) = true then ((armadalaw12_live.f).bind fun t249 => (some t249)) else (some false)) else (some false)) else (some false)))) else (some false)))) else (some false))))))
def armadalaw12_DigestTells.f (k : Nat) (a0 : ByteArray) (a1 : ByteArray) (a2 : Int) : Option (Bool) := if (a0.size : Int) > 600 then (armadalaw12_DigestTells.j0 k a0 a1 a2 true) else (armadalaw12_DigestTells.j0 k a0 a1 a2 (decide ((a1.size : Int) > 600)))
theorem armadalaw12_DigestTells.mono_l : ∀ k, (∀ y0 y1 y2 y3, LeO (armadalaw12_DigestTells.j0 k y0 y1 y2 y3) (armadalaw12_DigestTells.j0 (k + 1) y0 y1 y2 y3))
  | 0 => fun _ _ _ _ r h => by simp [armadalaw12_DigestTells.j0] at h
  | k + 1 => by
    have ih0 := armadalaw12_DigestTells.mono_l k
    · intro y0 y1 y2 y3
      unfold armadalaw12_DigestTells.j0
      repeat' first
      | (with_reducible exact ih0 _ _ _ _)
      | (with_reducible exact armadaref12_Block.mono _ _ _)
      | (with_reducible exact armadaref12_Hex.mono _ _)
      | (with_reducible exact armadaref12_Of.mono _ _)
      | (with_reducible exact armadaref12_Pad.mono _ _)
      | (with_reducible exact LeO.refl _)
      | (with_reducible exact LeO.none _)
      | (with_reducible refine LeO.ite ?_ ?_)
      | (with_reducible refine LeO.bind ?_ (fun _ => ?_))
      | exact ih0 _ _ _ _
      | exact armadaref12_Block.mono _ _ _
      | exact armadaref12_Hex.mono _ _
      | exact armadaref12_Of.mono _ _
      | exact armadaref12_Pad.mono _ _
      | exact LeO.none _
      | refine LeO.ite ?_ ?_
      | refine LeO.bind ?_ (fun _ => ?_)
theorem armadalaw12_DigestTells.mono : ∀ a0 a1 a2 k, LeO (armadalaw12_DigestTells.f k a0 a1 a2) (armadalaw12_DigestTells.f (k + 1) a0 a1 a2) := by
  intro a0 a1 a2 k
  have ih0 := armadalaw12_DigestTells.mono_l k
  unfold armadalaw12_DigestTells.f
  repeat' first
      | (with_reducible exact ih0 _ _ _ _)
      | (with_reducible exact armadaref12_Block.mono _ _ _)
      | (with_reducible exact armadaref12_Hex.mono _ _)
      | (with_reducible exact armadaref12_Of.mono _ _)
      | (with_reducible exact armadaref12_Pad.mono _ _)
      | (with_reducible exact LeO.refl _)
      | (with_reducible exact LeO.none _)
      | (with_reducible refine LeO.ite ?_ ?_)
      | (with_reducible refine LeO.bind ?_ (fun _ => ?_))
      | exact ih0 _ _ _ _
      | exact armadaref12_Block.mono _ _ _
      | exact armadaref12_Hex.mono _ _
      | exact armadaref12_Of.mono _ _
      | exact armadaref12_Pad.mono _ _
      | exact LeO.none _
      | refine LeO.ite ?_ ?_
      | refine LeO.bind ?_ (fun _ => ?_)
set_option maxHeartbeats 8000000 in
set_option maxRecDepth 100000 in
theorem armadalaw12_DigestTells.calls (k : Nat) (a0 : ByteArray) (a1 : ByteArray) (a2 : Int) (r : Bool) (w : World) (h : armadalaw12_DigestTells.f k a0 a1 a2 = some r) (hT_ : r = true := by rfl) :
    Calls Try.prog 3 #[.string a0, .string a1, .int .i64 a2] w fun e w' => e = .returned (.bool r) ∧ Below w.heap.size w w' := by
  subst hT_
  have HB := Aside0.mk (Below.refl w.heap.size w)
  have H : (if (a0.size : Int) > 600 then (armadalaw12_DigestTells.j0 k a0 a1 a2 true) else (armadalaw12_DigestTells.j0 k a0 a1 a2 (decide ((a1.size : Int) > 600)))) = some true := h
  clear h
  have HC4 := Aside0.mk H
  clear H
  go_enter Try.func3, Try.ntmps3
  go_upto_region 1 with (fail)
  go_cut [18] (fun v18 wc => ∃ (kq : Nat) (x18_3 : Bool), v18 = .bool x18_3 ∧ Aside0 (armadalaw12_DigestTells.j0 kq a0 a1 a2 x18_3 = some true) ∧ Aside0 (kq ≤ k) ∧ Aside0 (Below w.heap.size w wc))
  case first =>
    have H := HC4.out
    clear HC4
    by_cases c5 : (a0.size : Int) > 600
    · rw [if_pos c5] at H
      have c5b0 : decide (600 < (a0.size : Int)) = true := decide_eq_true c5
      have c5b1 : decide (600 < a0.size) = true := decide_eq_true (by omega)
      clear c5
      (first | rw [c5b0] | (simp only [i64_w, i32_w]; rw [c5b0]) | skip)
      have H' := Aside0.mk H
      clear H
      go_wp2
      go_meet
      case rel => exact ⟨_, (true), (by first | rfl | (simp; done) | (simp [*]; done)), H', ⟨by first | omega | exact Nat.le_refl _⟩, ⟨by repeat (first | (with_reducible first | exact HB.out | apply below_alloc | apply pw_below_drewN | apply below_drew1) | exact HB.out)⟩⟩
    · rw [if_neg c5] at H
      have c5b0 : decide (600 < (a0.size : Int)) = false := decide_eq_false c5
      have c5b1 : decide (600 < a0.size) = false := decide_eq_false (by omega)
      clear c5
      (first | rw [c5b0] | (simp only [i64_w, i32_w]; rw [c5b0]) | skip)
      have H' := Aside0.mk H
      clear H
      go_wp2
      go_meet
      case rel => exact ⟨_, (decide ((a1.size : Int) > 600)), (by first | rfl | (simp; done) | (simp [*]; done)), H', ⟨by first | omega | exact Nat.le_refl _⟩, ⟨by repeat (first | (with_reducible first | exact HB.out | apply below_alloc | apply pw_below_drewN | apply below_drew1) | exact HB.out)⟩⟩
  case rest =>
    clear HC4
    try clear p2
    try clear c3
    try clear c5
    try clear c5b0
    try clear c5b1
    obtain ⟨kq, x18_3, rfl, HA, HJ3, HB⟩ := hcut
    cases kq with
    | zero => exact absurd HA.out (by simp [armadalaw12_DigestTells.j0])
    | succ kj3 =>
      have H := HA.out
      clear HA
      simp only [armadalaw12_DigestTells.j0] at H
      by_cases c6 : x18_3 = true
      · subst c6
        have H1 : ((armadalaw12_live.f).bind fun t238 => (some t238)) = some true := by rw [if_pos rfl] at H; exact H
        clear H
        have H := H1
        clear H1
        replace H := Option.bind_eq_some_iff.mp H
        obtain ⟨t238, A70, H⟩ := H
        replace H : (some t238) = some true := H
        have A7 := Aside0.mk A70
        clear A70
        obtain rfl := Option.some.inj H
        go_wp2_with (first | ((with_reducible refine gate_callee (f := 8) rfl ?_); refine goesL_ (some 19) rfl rfl Try.func8 (by kernel_rfl) rfl #[] rfl (by (try simp only [List.map_toArray, List.map_cons, List.map_nil]); first | done | rfl | (simp only [List.length_drop, List.length_take]; rfl)) ?_; (with_reducible refine (armadalaw12_live.calls  true _ A7.out).mono ?_); rintro e w8 ⟨rfl, hb⟩; refine ⟨_, rfl, ?_⟩; have n0_ := Aside0.mk (below_step (by repeat (first | (with_reducible first | exact HB.out | apply below_alloc | apply pw_below_drewN | apply below_drew1) | exact HB.out)) hb); clear HB; have HB := n0_; clear n0_; (try clear hb); (try clear hb2); (try clear hk); (try clear hi)))
        go_ret
        exact ⟨by first | rfl | (simp [errW_none, errW_some] <;> rfl) | (simp [*, errW_none, errW_some] <;> rfl), by repeat (first | (with_reducible first | exact HB.out | apply below_alloc | apply pw_below_drewN | apply below_drew1) | exact HB.out)⟩
      · replace c6 := Bool.eq_false_iff.mpr c6
        subst c6
        have H1 : ((digest_Block.f a1 a0).bind fun bt239 => ((armadaref12_Block.f kj3 a1 a0).bind fun bt241 => ((digest_Of.f a0).bind fun t243 => ((armadaref12_Of.f kj3 a0).bind fun t244 => (if t243.toList = t244.toList then ((digest_Hex.f a0).bind fun t245 => ((armadaref12_Hex.f kj3 a0).bind fun t246 => (if t245.toList = t246.toList then ((digest_Pad.f a2).bind fun t247 => ((armadaref12_Pad.f kj3 a2).bind fun t248 => (if t247.toList = t248.toList then (if bt239.1.toList = bt241.1.toList then (if (bt239.2 == bt241.2) = true then ((armadalaw12_live.f).bind fun t249 => (some t249)) else (some false)) else (some false)) else (some false)))) else (some false)))) else (some false)))))) = some true := by rw [if_neg (show ¬ (false = true) by decide)] at H; exact H
        clear H
        have H := H1
        clear H1
        replace H := Option.bind_eq_some_iff.mp H
        obtain ⟨⟨t239, t240⟩, A90, H⟩ := H
        replace H : ((armadaref12_Block.f kj3 a1 a0).bind fun bt241 => ((digest_Of.f a0).bind fun t243 => ((armadaref12_Of.f kj3 a0).bind fun t244 => (if t243.toList = t244.toList then ((digest_Hex.f a0).bind fun t245 => ((armadaref12_Hex.f kj3 a0).bind fun t246 => (if t245.toList = t246.toList then ((digest_Pad.f a2).bind fun t247 => ((armadaref12_Pad.f kj3 a2).bind fun t248 => (if t247.toList = t248.toList then (if t239.toList = bt241.1.toList then (if (t240 == bt241.2) = true then ((armadalaw12_live.f).bind fun t249 => (some t249)) else (some false)) else (some false)) else (some false)))) else (some false)))) else (some false))))) = some true := H
        have A9 := Aside0.mk A90
        clear A90
        replace H := Option.bind_eq_some_iff.mp H
        obtain ⟨⟨t241, t242⟩, A100, H⟩ := H
        replace H : ((digest_Of.f a0).bind fun t243 => ((armadaref12_Of.f kj3 a0).bind fun t244 => (if t243.toList = t244.toList then ((digest_Hex.f a0).bind fun t245 => ((armadaref12_Hex.f kj3 a0).bind fun t246 => (if t245.toList = t246.toList then ((digest_Pad.f a2).bind fun t247 => ((armadaref12_Pad.f kj3 a2).bind fun t248 => (if t247.toList = t248.toList then (if t239.toList = t241.toList then (if (t240 == t242) = true then ((armadalaw12_live.f).bind fun t249 => (some t249)) else (some false)) else (some false)) else (some false)))) else (some false)))) else (some false)))) = some true := H
        have A10 := Aside0.mk A100
        clear A100
        replace H := Option.bind_eq_some_iff.mp H
        obtain ⟨t243, A110, H⟩ := H
        replace H : ((armadaref12_Of.f kj3 a0).bind fun t244 => (if t243.toList = t244.toList then ((digest_Hex.f a0).bind fun t245 => ((armadaref12_Hex.f kj3 a0).bind fun t246 => (if t245.toList = t246.toList then ((digest_Pad.f a2).bind fun t247 => ((armadaref12_Pad.f kj3 a2).bind fun t248 => (if t247.toList = t248.toList then (if t239.toList = t241.toList then (if (t240 == t242) = true then ((armadalaw12_live.f).bind fun t249 => (some t249)) else (some false)) else (some false)) else (some false)))) else (some false)))) else (some false))) = some true := H
        have A11 := Aside0.mk A110
        clear A110
        replace H := Option.bind_eq_some_iff.mp H
        obtain ⟨t244, A120, H⟩ := H
        replace H : (if t243.toList = t244.toList then ((digest_Hex.f a0).bind fun t245 => ((armadaref12_Hex.f kj3 a0).bind fun t246 => (if t245.toList = t246.toList then ((digest_Pad.f a2).bind fun t247 => ((armadaref12_Pad.f kj3 a2).bind fun t248 => (if t247.toList = t248.toList then (if t239.toList = t241.toList then (if (t240 == t242) = true then ((armadalaw12_live.f).bind fun t249 => (some t249)) else (some false)) else (some false)) else (some false)))) else (some false)))) else (some false)) = some true := H
        have A12 := Aside0.mk A120
        clear A120
        by_cases c13 : t243.toList = t244.toList
        · rw [if_pos c13] at H
          have c13b0 : (t243.toList == t244.toList) = true := beq_iff_eq.mpr c13
          have c13b1 : (t243.toList != t244.toList) = false := bne_eq_false_iff_eq.mpr c13
          clear c13
          replace H := Option.bind_eq_some_iff.mp H
          obtain ⟨t245, A140, H⟩ := H
          replace H : ((armadaref12_Hex.f kj3 a0).bind fun t246 => (if t245.toList = t246.toList then ((digest_Pad.f a2).bind fun t247 => ((armadaref12_Pad.f kj3 a2).bind fun t248 => (if t247.toList = t248.toList then (if t239.toList = t241.toList then (if (t240 == t242) = true then ((armadalaw12_live.f).bind fun t249 => (some t249)) else (some false)) else (some false)) else (some false)))) else (some false))) = some true := H
          have A14 := Aside0.mk A140
          clear A140
          replace H := Option.bind_eq_some_iff.mp H
          obtain ⟨t246, A150, H⟩ := H
          replace H : (if t245.toList = t246.toList then ((digest_Pad.f a2).bind fun t247 => ((armadaref12_Pad.f kj3 a2).bind fun t248 => (if t247.toList = t248.toList then (if t239.toList = t241.toList then (if (t240 == t242) = true then ((armadalaw12_live.f).bind fun t249 => (some t249)) else (some false)) else (some false)) else (some false)))) else (some false)) = some true := H
          have A15 := Aside0.mk A150
          clear A150
          by_cases c16 : t245.toList = t246.toList
          · rw [if_pos c16] at H
            have c16b0 : (t245.toList == t246.toList) = true := beq_iff_eq.mpr c16
            have c16b1 : (t245.toList != t246.toList) = false := bne_eq_false_iff_eq.mpr c16
            clear c16
            replace H := Option.bind_eq_some_iff.mp H
            obtain ⟨t247, A170, H⟩ := H
            replace H : ((armadaref12_Pad.f kj3 a2).bind fun t248 => (if t247.toList = t248.toList then (if t239.toList = t241.toList then (if (t240 == t242) = true then ((armadalaw12_live.f).bind fun t249 => (some t249)) else (some false)) else (some false)) else (some false))) = some true := H
            have A17 := Aside0.mk A170
            clear A170
            replace H := Option.bind_eq_some_iff.mp H
            obtain ⟨t248, A180, H⟩ := H
            replace H : (if t247.toList = t248.toList then (if t239.toList = t241.toList then (if (t240 == t242) = true then ((armadalaw12_live.f).bind fun t249 => (some t249)) else (some false)) else (some false)) else (some false)) = some true := H
            have A18 := Aside0.mk A180
            clear A180
            by_cases c19 : t247.toList = t248.toList
            · rw [if_pos c19] at H
              have c19b0 : (t247.toList == t248.toList) = true := beq_iff_eq.mpr c19
              have c19b1 : (t247.toList != t248.toList) = false := bne_eq_false_iff_eq.mpr c19
              clear c19
              by_cases c20 : t239.toList = t241.toList
              · rw [if_pos c20] at H
                have c20b0 : (t239.toList == t241.toList) = true := beq_iff_eq.mpr c20
                have c20b1 : (t239.toList != t241.toList) = false := bne_eq_false_iff_eq.mpr c20
                clear c20
                by_cases c21 : (t240 == t242) = true
                · rw [if_pos c21] at H
                  have c21b0 : (t240 == t242) = true := c21
                  (try (have c21b1 : decide (t240 = t242) = true := by simpa using c21))
                  (try (have c21b2 : (t240 == t242) = true := by simpa using c21))
                  clear c21
                  replace H := Option.bind_eq_some_iff.mp H
                  obtain ⟨t249, A220, H⟩ := H
                  replace H : (some t249) = some true := H
                  have A22 := Aside0.mk A220
                  clear A220
                  obtain rfl := Option.some.inj H
                  go_wp2_with (first | ((with_reducible refine gate_callee (f := 9) rfl ?_); refine goesL_ (some 23) rfl rfl Try.func9 (by kernel_rfl) rfl #[.string a1, .string a0] rfl (by (try simp only [List.map_toArray, List.map_cons, List.map_nil]); first | done | rfl | (simp only [List.length_drop, List.length_take]; rfl)) ?_; (with_reducible refine (digest_Block.calls a1 a0 t239 t240 _ A9.out).mono ?_); rintro e w23 ⟨rfl, hb⟩; refine ⟨_, rfl, ?_⟩; have n0_ := Aside0.mk (below_step (by repeat (first | (with_reducible first | exact HB.out | apply below_alloc | apply pw_below_drewN | apply below_drew1) | exact HB.out)) hb); clear HB; have HB := n0_; clear n0_; (try clear hb); (try clear hb2); (try clear hk); (try clear hi)) | ((with_reducible refine gate_callee (f := 10) rfl ?_); refine goesL_ (some 29) rfl rfl Try.func10 (by kernel_rfl) rfl #[.string a1, .string a0] rfl (by (try simp only [List.map_toArray, List.map_cons, List.map_nil]); first | done | rfl | (simp only [List.length_drop, List.length_take]; rfl)) ?_; (with_reducible refine (armadaref12_Block.calls kj3 a1 a0 t241 t242 _ A10.out).mono ?_); rintro e w24 ⟨rfl, hb⟩; refine ⟨_, rfl, ?_⟩; have n0_ := Aside0.mk (below_step (by repeat (first | (with_reducible first | exact HB.out | apply below_alloc | apply pw_below_drewN | apply below_drew1) | exact HB.out)) hb); clear HB; have HB := n0_; clear n0_; (try clear hb); (try clear hb2); (try clear hk); (try clear hi)) | ((with_reducible refine gate_callee (f := 11) rfl ?_); refine goesL_ (some 33) rfl rfl Try.func11 (by kernel_rfl) rfl #[.string a0] rfl (by (try simp only [List.map_toArray, List.map_cons, List.map_nil]); first | done | rfl | (simp only [List.length_drop, List.length_take]; rfl)) ?_; (with_reducible refine (digest_Of.calls a0 t243 _ A11.out).mono ?_); rintro e w25 ⟨rfl, hb⟩; refine ⟨_, rfl, ?_⟩; have n0_ := Aside0.mk (below_step (by repeat (first | (with_reducible first | exact HB.out | apply below_alloc | apply pw_below_drewN | apply below_drew1) | exact HB.out)) hb); clear HB; have HB := n0_; clear n0_; (try clear hb); (try clear hb2); (try clear hk); (try clear hi)) | ((with_reducible refine gate_callee (f := 12) rfl ?_); refine goesL_ (some 35) rfl rfl Try.func12 (by kernel_rfl) rfl #[.string a0] rfl (by (try simp only [List.map_toArray, List.map_cons, List.map_nil]); first | done | rfl | (simp only [List.length_drop, List.length_take]; rfl)) ?_; (with_reducible refine (armadaref12_Of.calls kj3 a0 t244 _ A12.out).mono ?_); rintro e w26 ⟨rfl, hb⟩; refine ⟨_, rfl, ?_⟩; have n0_ := Aside0.mk (below_step (by repeat (first | (with_reducible first | exact HB.out | apply below_alloc | apply pw_below_drewN | apply below_drew1) | exact HB.out)) hb); clear HB; have HB := n0_; clear n0_; (try clear hb); (try clear hb2); (try clear hk); (try clear hi)) | (go_at_call 13; (with_reducible refine (digest_Hex.calls a0 t245 _ A14.out).mono ?_); rintro e w27 ⟨rfl, hb⟩; have n0_ := Aside0.mk (below_step (by repeat (first | (with_reducible first | exact HB.out | apply below_alloc | apply pw_below_drewN | apply below_drew1) | exact HB.out)) hb); clear HB; have HB := n0_; clear n0_; (try clear hb); (try clear hb2); (try clear hk); (try clear hi)) | (go_at_call 14; (with_reducible refine (armadaref12_Hex.calls kj3 a0 t246 _ A15.out).mono ?_); rintro e w28 ⟨rfl, hb⟩; have n0_ := Aside0.mk (below_step (by repeat (first | (with_reducible first | exact HB.out | apply below_alloc | apply pw_below_drewN | apply below_drew1) | exact HB.out)) hb); clear HB; have HB := n0_; clear n0_; (try clear hb); (try clear hb2); (try clear hk); (try clear hi)) | (go_at_call 15; (with_reducible refine (digest_Pad.calls a2 t247 _ A17.out).mono ?_); rintro e w29 ⟨rfl, hb⟩; have n0_ := Aside0.mk (below_step (by repeat (first | (with_reducible first | exact HB.out | apply below_alloc | apply pw_below_drewN | apply below_drew1) | exact HB.out)) hb); clear HB; have HB := n0_; clear n0_; (try clear hb); (try clear hb2); (try clear hk); (try clear hi)) | (go_at_call 16; (with_reducible refine (armadaref12_Pad.calls kj3 a2 t248 _ A18.out).mono ?_); rintro e w30 ⟨rfl, hb⟩; have n0_ := Aside0.mk (below_step (by repeat (first | (with_reducible first | exact HB.out | apply below_alloc | apply pw_below_drewN | apply below_drew1) | exact HB.out)) hb); clear HB; have HB := n0_; clear n0_; (try clear hb); (try clear hb2); (try clear hk); (try clear hi)) | (go_at_call 8; (with_reducible refine (armadalaw12_live.calls  true _ A22.out).mono ?_); rintro e w31 ⟨rfl, hb⟩; have n0_ := Aside0.mk (below_step (by repeat (first | (with_reducible first | exact HB.out | apply below_alloc | apply pw_below_drewN | apply below_drew1) | exact HB.out)) hb); clear HB; have HB := n0_; clear n0_; (try clear hb); (try clear hb2); (try clear hk); (try clear hi)))
                  go_ret
                  exact ⟨by first | rfl | (simp [errW_none, errW_some] <;> rfl) | (simp [*, errW_none, errW_some] <;> rfl), by repeat (first | (with_reducible first | exact HB.out | apply below_alloc | apply pw_below_drewN | apply below_drew1) | exact HB.out)⟩
                · rw [if_neg c21] at H
                  have c21b0 : (t240 == t242) = false := by simpa using c21
                  (try (have c21b1 : decide (t240 = t242) = false := by simpa using c21))
                  (try (have c21b2 : (t240 == t242) = false := by simpa using c21))
                  (try (have c21b3 : ¬ (t240 = t242) := by simpa using c21))
                  clear c21
                  exact absurd H (by simp)
              · rw [if_neg c20] at H
                have c20b0 : (t239.toList == t241.toList) = false := beq_eq_false_iff_ne.mpr c20
                have c20b1 : (t239.toList != t241.toList) = true := bne_iff_ne.mpr c20
                exact absurd H (by simp)
            · rw [if_neg c19] at H
              have c19b0 : (t247.toList == t248.toList) = false := beq_eq_false_iff_ne.mpr c19
              have c19b1 : (t247.toList != t248.toList) = true := bne_iff_ne.mpr c19
              exact absurd H (by simp)
          · rw [if_neg c16] at H
            have c16b0 : (t245.toList == t246.toList) = false := beq_eq_false_iff_ne.mpr c16
            have c16b1 : (t245.toList != t246.toList) = true := bne_iff_ne.mpr c16
            exact absurd H (by simp)
        · rw [if_neg c13] at H
          have c13b0 : (t243.toList == t244.toList) = false := beq_eq_false_iff_ne.mpr c13
          have c13b1 : (t243.toList != t244.toList) = true := bne_iff_ne.mpr c13
          exact absurd H (by simp)

/-- THE ONE PURE STATEMENT of armadalaw12_DigestTells: yours. -/
def armadalaw12_DigestTells.Pure : Prop := ∀ (a0 : ByteArray) (a1 : ByteArray) (a2 : Int), a0.size ≤ 140737488351232 → a1.size ≤ 140737488351232 → (Lit.int .i64 a2).wf = true → ∃ k, armadalaw12_DigestTells.f k a0 a1 a2 = some true
theorem armadalaw12_DigestTells.walk (P : armadalaw12_DigestTells.Pure) (a0 : ByteArray) (a1 : ByteArray) (a2 : Int) (w : World) (w0 : a0.size ≤ 140737488351232) (w1 : a1.size ≤ 140737488351232) (w2 : (Lit.int .i64 a2).wf = true) :
    Calls Try.prog 3 #[.string a0, .string a1, .int .i64 a2] w fun e w' => e = .returned (.bool true) ∧ Below w.heap.size w w' := by
  obtain ⟨k, h⟩ := P a0 a1 a2 w0 w1 w2
  refine (armadalaw12_DigestTells.calls k a0 a1 a2 true w h).mono ?_
  rintro e w' ⟨rfl, hd⟩
  exact ⟨rfl, hd⟩

end Go.Proofs.Ytkejacgedipoeaa.P
