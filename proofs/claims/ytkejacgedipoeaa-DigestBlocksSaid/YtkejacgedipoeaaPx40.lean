-- PRINTED by print.py (a twelfth state) out of the translation. Not trusted: Lean checks it.
import Derived.Test.YtkejacgedipoeaaPx0
import Derived.Test.YtkejacgedipoeaaPx27
import Derived.Test.YtkejacgedipoeaaPx28
import Derived.Test.YtkejacgedipoeaaPx36
import Derived.Test.YtkejacgedipoeaaDBlock
import Derived.Test.YtkejacgedipoeaaDHex
import Derived.Test.YtkejacgedipoeaaDOf
import Derived.Test.YtkejacgedipoeaaDPad
namespace Go.Proofs.Ytkejacgedipoeaa.P
open Go.RowKit Go.Proofs.YtkejacgedipoeaaW.PrintWords Go.Proofs.YtkejacgedipoeaaW.PrintLast Go.Proofs.YtkejacgedipoeaaW.PrintMore
attribute [local go_sem] max2_int min2_int max_two min_two max_three min_three max_four min_four   -- for this text's walks alone
set_option linter.unusedVariables false
set_option linter.unusedSimpArgs false

/-! ### armadalaw12_DigestBlocks: function 4 -/
mutual
def armadalaw12_DigestBlocks.j0 : Nat → ByteArray → ByteArray → ByteArray → Bool → Option (Bool)
  | 0, _, _, _, _ => none
  | k + 1, x0, x3, x4, x30 => if x30 = true then (some false) else (armadalaw12_DigestBlocks.l0 k x0 x3 x4 0)
def armadalaw12_DigestBlocks.l0 : Nat → ByteArray → ByteArray → ByteArray → Int → Option (Bool)
  | 0, _, _, _, _ => none
  | k + 1, x0, x3, x4, x5 => if x5 < (x4.size : Int) then (if 0 ≤ x5 then (if x5 ≤ (wrap64 (x5 + 64)) then (if (wrap64 (x5 + 64)) ≤ (x4.size : Int) then ((digest_Block.f x3 (x4.extract (x5 : Int).toNat ((wrap64 (x5 + 64)) : Int).toNat)).bind fun bt256 => (if bt256.2 = true then (if (bt256.1.size : Int) = 32 then (armadalaw12_DigestBlocks.l0 k x0 bt256.1 x4 (wrap64 (x5 + 64))) else (some false)) else (some false))) else (none)) else (none)) else (none)) else ((digest_Of.f x0).bind fun t258 => (if t258.toList = x3.toList then ((digest_Hex.f x3).bind fun t259 => (if (t259.size : Int) = 64 then ((armadalaw12_live.f).bind fun t260 => (some t260)) else (some false))) else (some false)))
end
def armadalaw12_DigestBlocks.f (k : Nat) (a0 : ByteArray) : Option (Bool) := if (a0.size : Int) > 4000 then ((armadalaw12_live.f).bind fun t250 => (some t250)) else ((armadaref12_H.f).bind fun t251 => ((armadaref12_Bytes.f k t251).bind fun t254 => ((digest_Pad.f (a0.size : Int)).bind fun t255 => (if a0.size + t255.size ≤ 9223372036854775807 then (if (((a0 ++ t255).size : Int) % 64) = 0 then (armadalaw12_DigestBlocks.j0 k a0 t254 (a0 ++ t255) (decide (((a0 ++ t255).size : Int) < (wrap64 ((a0.size : Int) + 9))))) else (armadalaw12_DigestBlocks.j0 k a0 t254 (a0 ++ t255) true)) else (none)))))
theorem armadalaw12_DigestBlocks.mono_l : ∀ k, (∀ y0 y1 y2 y3, LeO (armadalaw12_DigestBlocks.j0 k y0 y1 y2 y3) (armadalaw12_DigestBlocks.j0 (k + 1) y0 y1 y2 y3)) ∧ (∀ y0 y1 y2 y3, LeO (armadalaw12_DigestBlocks.l0 k y0 y1 y2 y3) (armadalaw12_DigestBlocks.l0 (k + 1) y0 y1 y2 y3))
  | 0 => ⟨fun _ _ _ _ r h => by simp [armadalaw12_DigestBlocks.j0] at h, fun _ _ _ _ r h => by simp [armadalaw12_DigestBlocks.l0] at h⟩
  | k + 1 => by
    obtain ⟨ih0, ih1⟩ := armadalaw12_DigestBlocks.mono_l k
    refine ⟨?_, ?_⟩
    · intro y0 y1 y2 y3
      unfold armadalaw12_DigestBlocks.j0
      repeat' first
      | (with_reducible exact ih0 _ _ _ _)
      | (with_reducible exact ih1 _ _ _ _)
      | (with_reducible exact armadaref12_Bytes.mono _ _)
      | (with_reducible exact LeO.refl _)
      | (with_reducible exact LeO.none _)
      | (with_reducible refine LeO.ite ?_ ?_)
      | (with_reducible refine LeO.bind ?_ (fun _ => ?_))
      | exact ih0 _ _ _ _
      | exact ih1 _ _ _ _
      | exact armadaref12_Bytes.mono _ _
      | exact LeO.none _
      | refine LeO.ite ?_ ?_
      | refine LeO.bind ?_ (fun _ => ?_)
    · intro y0 y1 y2 y3
      unfold armadalaw12_DigestBlocks.l0
      repeat' first
      | (with_reducible exact ih0 _ _ _ _)
      | (with_reducible exact ih1 _ _ _ _)
      | (with_reducible exact armadaref12_Bytes.mono _ _)
      | (with_reducible exact LeO.refl _)
      | (with_reducible exact LeO.none _)
      | (with_reducible refine LeO.ite ?_ ?_)
      | (with_reducible refine LeO.bind ?_ (fun _ => ?_))
      | exact ih0 _ _ _ _
      | exact ih1 _ _ _ _
      | exact armadaref12_Bytes.mono _ _
      | exact LeO.none _
      | refine LeO.ite ?_ ?_
      | refine LeO.bind ?_ (fun _ => ?_)
theorem armadalaw12_DigestBlocks.mono : ∀ a0 k, LeO (armadalaw12_DigestBlocks.f k a0) (armadalaw12_DigestBlocks.f (k + 1) a0) := by
  intro a0 k
  obtain ⟨ih0, ih1⟩ := armadalaw12_DigestBlocks.mono_l k
  unfold armadalaw12_DigestBlocks.f
  repeat' first
      | (with_reducible exact ih0 _ _ _ _)
      | (with_reducible exact ih1 _ _ _ _)
      | (with_reducible exact armadaref12_Bytes.mono _ _)
      | (with_reducible exact LeO.refl _)
      | (with_reducible exact LeO.none _)
      | (with_reducible refine LeO.ite ?_ ?_)
      | (with_reducible refine LeO.bind ?_ (fun _ => ?_))
      | exact ih0 _ _ _ _
      | exact ih1 _ _ _ _
      | exact armadaref12_Bytes.mono _ _
      | exact LeO.none _
      | refine LeO.ite ?_ ?_
      | refine LeO.bind ?_ (fun _ => ?_)
theorem nine_ (a : ByteArray) (h : decide (4000 < a.size) = false) : wrap64 ((a.size : Int) + 9) = (a.size : Int) + 9 := by have := of_decide_eq_false h; unfold wrap64; omega
theorem sz_app (a b : ByteArray) : ((a ++ b).size : Int) = (a.size : Int) + (b.size : Int) := by rw [ByteArray.size_append]; exact Int.natCast_add _ _
set_option maxHeartbeats 8000000 in
set_option maxRecDepth 100000 in
theorem armadalaw12_DigestBlocks.calls (k : Nat) (a0 : ByteArray) (r : Bool) (w : World) (h : armadalaw12_DigestBlocks.f k a0 = some r) (hT_ : r = true := by rfl) :
    Calls Try.prog 4 #[.string a0] w fun e w' => e = .returned (.bool r) ∧ Below w.heap.size w w' := by
  subst hT_
  have HB := Aside0.mk (Below.refl w.heap.size w)
  have H : (if (a0.size : Int) > 4000 then ((armadalaw12_live.f).bind fun t250 => (some t250)) else ((armadaref12_H.f).bind fun t251 => ((armadaref12_Bytes.f k t251).bind fun t254 => ((digest_Pad.f (a0.size : Int)).bind fun t255 => (if a0.size + t255.size ≤ 9223372036854775807 then (if (((a0 ++ t255).size : Int) % 64) = 0 then (armadalaw12_DigestBlocks.j0 k a0 t254 (a0 ++ t255) (decide (((a0 ++ t255).size : Int) < (wrap64 ((a0.size : Int) + 9))))) else (armadalaw12_DigestBlocks.j0 k a0 t254 (a0 ++ t255) true)) else (none)))))) = some true := h
  clear h
  by_cases c2 : (a0.size : Int) > 4000
  · rw [if_pos c2] at H
    have c2b0 : decide (4000 < (a0.size : Int)) = true := decide_eq_true c2
    have c2b1 : decide (4000 < a0.size) = true := decide_eq_true (by omega)
    clear c2
    replace H := Option.bind_eq_some_iff.mp H
    obtain ⟨t250, A30, H⟩ := H
    replace H : (some t250) = some true := H
    have A3 := Aside0.mk A30
    clear A30
    obtain rfl := Option.some.inj H
    go_enter Try.func4, Try.ntmps4
    go_wp2_with (first | ((with_reducible refine gate_callee (f := 8) rfl ?_); refine goesL_ (some 11) rfl rfl Try.func8 (by kernel_rfl) rfl #[] rfl (by (try simp only [List.map_toArray, List.map_cons, List.map_nil]); first | done | rfl | (simp only [List.length_drop, List.length_take]; rfl)) ?_; (with_reducible refine (armadalaw12_live.calls  true _ A3.out).mono ?_); rintro e w4 ⟨rfl, hb⟩; refine ⟨_, rfl, ?_⟩; have n0_ := Aside0.mk (below_step (by repeat (first | (with_reducible first | exact HB.out | apply below_alloc | apply pw_below_drewN | apply below_drew1) | exact HB.out)) hb); clear HB; have HB := n0_; clear n0_; (try clear hb); (try clear hb2); (try clear hk); (try clear hi)))
    go_ret
    exact ⟨by first | rfl | (simp [errW_none, errW_some] <;> rfl) | (simp [*, errW_none, errW_some] <;> rfl), by repeat (first | (with_reducible first | exact HB.out | apply below_alloc | apply pw_below_drewN | apply below_drew1) | exact HB.out)⟩
  · rw [if_neg c2] at H
    have c2b0 : decide (4000 < (a0.size : Int)) = false := decide_eq_false c2
    have c2b1 : decide (4000 < a0.size) = false := decide_eq_false (by omega)
    clear c2
    replace H := Option.bind_eq_some_iff.mp H
    obtain ⟨t251, A50, H⟩ := H
    replace H : ((armadaref12_Bytes.f k t251).bind fun t254 => ((digest_Pad.f (a0.size : Int)).bind fun t255 => (if a0.size + t255.size ≤ 9223372036854775807 then (if (((a0 ++ t255).size : Int) % 64) = 0 then (armadalaw12_DigestBlocks.j0 k a0 t254 (a0 ++ t255) (decide (((a0 ++ t255).size : Int) < (wrap64 ((a0.size : Int) + 9))))) else (armadalaw12_DigestBlocks.j0 k a0 t254 (a0 ++ t255) true)) else (none)))) = some true := H
    have A5 := Aside0.mk A50
    clear A50
    replace H := Option.bind_eq_some_iff.mp H
    obtain ⟨t254, A60, H⟩ := H
    replace H : ((digest_Pad.f (a0.size : Int)).bind fun t255 => (if a0.size + t255.size ≤ 9223372036854775807 then (if (((a0 ++ t255).size : Int) % 64) = 0 then (armadalaw12_DigestBlocks.j0 k a0 t254 (a0 ++ t255) (decide (((a0 ++ t255).size : Int) < (wrap64 ((a0.size : Int) + 9))))) else (armadalaw12_DigestBlocks.j0 k a0 t254 (a0 ++ t255) true)) else (none))) = some true := H
    have A6 := Aside0.mk A60
    clear A60
    replace H := Option.bind_eq_some_iff.mp H
    obtain ⟨t255, A70, H⟩ := H
    replace H : (if a0.size + t255.size ≤ 9223372036854775807 then (if (((a0 ++ t255).size : Int) % 64) = 0 then (armadalaw12_DigestBlocks.j0 k a0 t254 (a0 ++ t255) (decide (((a0 ++ t255).size : Int) < (wrap64 ((a0.size : Int) + 9))))) else (armadalaw12_DigestBlocks.j0 k a0 t254 (a0 ++ t255) true)) else (none)) = some true := H
    have A7 := Aside0.mk A70
    clear A70
    by_cases c8 : a0.size + t255.size ≤ 9223372036854775807
    · rw [if_pos c8] at H
      have c8b0 := eq_true c8
      have c8b1 : decide (a0.size + t255.size ≤ 9223372036854775807) = true := decide_eq_true c8
      try have c8b2 : (9223372036854775807 < a0.size + t255.size) = False := eq_false (Nat.not_lt.2 c8)
      have HC9 := Aside0.mk H
      clear H
      go_enter Try.func4, Try.ntmps4
      go_upto_region 5 with (first | ((with_reducible refine gate_callee (f := 18) rfl ?_); refine goesL_ (some 12) rfl rfl Try.func18 (by kernel_rfl) rfl #[] rfl (by (try simp only [List.map_toArray, List.map_cons, List.map_nil]); first | done | rfl | (simp only [List.length_drop, List.length_take]; rfl)) ?_; (with_reducible refine (armadaref12_H.calls  t251 _ A5.out).mono ?_); rintro e w10 ⟨v252, rfl, ho0, hb⟩; refine ⟨_, rfl, ?_⟩; have n0_ := Aside0.mk (Kd.R_lower ho0 (below_size (by repeat (first | (with_reducible first | exact HB.out | apply below_alloc | apply pw_below_drewN | apply below_drew1) | exact HB.out)))); have n1_ := Aside0.mk (below_step (by repeat (first | (with_reducible first | exact HB.out | apply below_alloc | apply pw_below_drewN | apply below_drew1) | exact HB.out)) hb); clear HB; have HO253 := n0_; have HB := n1_; clear n0_ n1_; (try clear hb); (try clear hb2); (try clear hk); (try clear hi); (try clear ho0); obtain ⟨Ao11, co11, eo11⟩ := Kd.R_slice HO253.out; subst eo11) | ((with_reducible refine gate_callee (f := 17) rfl ?_); refine goesL_ (some 13) rfl rfl Try.func17 (by kernel_rfl) rfl #[.slice Ao11 t251.length co11] rfl (by (try simp only [List.map_toArray, List.map_cons, List.map_nil]); first | done | rfl | (simp only [List.length_drop, List.length_take]; rfl)) ?_; (with_reducible refine (armadaref12_Bytes.calls k _ _ t251 t254 _ ?side1 ?side2 A6.out).mono ?_); (case side1 => repeat (first | exact (Kd.R_reads' HO253.out).2.2 | (with_reducible refine Kd.C_alloc ?_ _) | (with_reducible refine Kd.C_drewN ?_ _) | (with_reducible refine Kd.C_drew ?_))); (case side2 => exact (Kd.R_reads' HO253.out).2.1); rintro e w12 ⟨rfl, hb⟩; refine ⟨_, rfl, ?_⟩; have n0_ := Aside0.mk (Kd.R_below (by (with_reducible repeat (first | apply Kd.R_alloc | apply Kd.R_drewN | apply Kd.R_drew)); exact HO253.out) hb); have n1_ := Aside0.mk (below_step (by repeat (first | (with_reducible first | exact HB.out | apply below_alloc | apply pw_below_drewN | apply below_drew1) | exact HB.out)) hb); clear HO253; clear HB; have HO253 := n0_; have HB := n1_; clear n0_ n1_; (try clear hb); (try clear hb2); (try clear hk); (try clear hi)) | ((with_reducible refine gate_callee (f := 15) rfl ?_); refine goesL_ (some 17) rfl rfl Try.func15 (by kernel_rfl) rfl #[.int .i64 (a0.size : Int)] rfl (by (try simp only [List.map_toArray, List.map_cons, List.map_nil]); first | done | rfl | (simp only [List.length_drop, List.length_take]; rfl)) ?_; (with_reducible refine (digest_Pad.calls (a0.size : Int) t255 _ A7.out).mono ?_); rintro e w13 ⟨rfl, hb⟩; refine ⟨_, rfl, ?_⟩; have n0_ := Aside0.mk (Kd.R_below (by (with_reducible repeat (first | apply Kd.R_alloc | apply Kd.R_drewN | apply Kd.R_drew)); exact HO253.out) hb); have n1_ := Aside0.mk (below_step (by repeat (first | (with_reducible first | exact HB.out | apply below_alloc | apply pw_below_drewN | apply below_drew1) | exact HB.out)) hb); clear HO253; clear HB; have HO253 := n0_; have HB := n1_; clear n0_ n1_; (try clear hb); (try clear hb2); (try clear hk); (try clear hi)))
      (try simp only [Act.put, List.setIfInBounds_toArray, List.set_cons_zero, List.set_cons_succ])
      go_cut [30] (fun v30 wc => ∃ (kq : Nat) (x30_8 : Bool), v30 = .bool x30_8 ∧ Aside0 (armadalaw12_DigestBlocks.j0 kq a0 t254 (a0 ++ t255) x30_8 = some true) ∧ Aside0 (kq ≤ k) ∧ Aside0 (Below w.heap.size w wc))
      case first =>
        have H := HC9.out
        clear HC9
        by_cases c14 : (((a0 ++ t255).size : Int) % 64) = 0
        · rw [if_pos c14] at H
          have c14b0 : ((((a0.size : Int) + (t255.size : Int)) % 64) == 0) = true := by rw [← sz_app]; exact beq_iff_eq.mpr c14
          have c14b1 : ((((a0.size : Int) + (t255.size : Int)) % 64) != 0) = false := by rw [← sz_app]; exact bne_eq_false_iff_eq.mpr c14
          clear c14
          (first | rw [c14b0] | (simp only [i64_w, i32_w]; rw [c14b0]) | skip)
          have H' := Aside0.mk H
          clear H
          go_wp2
          go_meet
          case rel => exact ⟨_, (decide (((a0 ++ t255).size : Int) < (wrap64 ((a0.size : Int) + 9)))), (by rw [sz_app, nine_ a0 c2b1] <;> simp), H', ⟨by first | omega | exact Nat.le_refl _⟩, ⟨by repeat (first | (with_reducible first | exact HB.out | apply below_alloc | apply pw_below_drewN | apply below_drew1) | exact HB.out)⟩⟩
        · rw [if_neg c14] at H
          have c14b0 : ((((a0.size : Int) + (t255.size : Int)) % 64) == 0) = false := by rw [← sz_app]; exact beq_eq_false_iff_ne.mpr c14
          have c14b1 : ((((a0.size : Int) + (t255.size : Int)) % 64) != 0) = true := by rw [← sz_app]; exact bne_iff_ne.mpr c14
          (first | rw [c14b0] | (simp only [i64_w, i32_w]; rw [c14b0]) | skip)
          have H' := Aside0.mk H
          clear H
          go_wp2
          go_meet
          case rel => exact ⟨_, (true), (by first | rfl | (simp; done) | (simp [*]; done)), H', ⟨by first | omega | exact Nat.le_refl _⟩, ⟨by repeat (first | (with_reducible first | exact HB.out | apply below_alloc | apply pw_below_drewN | apply below_drew1) | exact HB.out)⟩⟩
      case rest =>
        clear HC9
        try clear c1
        try clear c2
        try clear c2b0
        try clear c2b1
        try clear p2
        try clear c4
        try clear p6
        try clear c8
        try clear c8b0
        try clear c8b1
        try clear c8b2
        try clear c14
        try clear c14b0
        try clear c14b1
        obtain ⟨kq, x30_8, rfl, HA, HJ8, HB⟩ := hcut
        cases kq with
        | zero => exact absurd HA.out (by simp [armadalaw12_DigestBlocks.j0])
        | succ kj8 =>
          have H := HA.out
          clear HA
          simp only [armadalaw12_DigestBlocks.j0] at H
          by_cases c15 : x30_8 = true
          · subst c15
            have H1 : (some false) = some true := by rw [if_pos rfl] at H; exact H
            clear H
            have H := H1
            clear H1
            exact absurd H (by simp)
          · replace c15 := Bool.eq_false_iff.mpr c15
            subst c15
            have H1 : (armadalaw12_DigestBlocks.l0 kj8 a0 t254 (a0 ++ t255) 0) = some true := by rw [if_neg (show ¬ (false = true) by decide)] at H; exact H
            clear H
            have H := H1
            clear H1
            have H' := Aside0.mk H
            clear H
            go_wp2
            go_loopg [3, 5] kj8 (fun kq v3 v5 w' => ∃ (x3_2 : ByteArray) (x5_2 : Int), v3 = .string x3_2 ∧ v5 = .int .i64 x5_2 ∧ Aside0 (armadalaw12_DigestBlocks.l0 kq a0 x3_2 (a0 ++ t255) x5_2 = some true) ∧ Aside0 (kq ≤ kj8) ∧ Aside0 (Below w.heap.size w w'))
            case atStart => exact ⟨(t254), (0), (by first | rfl | (simp; done) | (simp [*]; done)), (by first | rfl | (simp; done) | (simp [*]; done)), H', ⟨Nat.le_refl _⟩, ⟨by repeat (first | (with_reducible first | exact HB.out | apply below_alloc | apply pw_below_drewN | apply below_drew1) | exact HB.out)⟩⟩
            case round =>
              clear H'
              try clear c1
              try clear c2
              try clear c2b0
              try clear c2b1
              try clear p2
              try clear c4
              try clear p6
              try clear c8
              try clear c8b0
              try clear c8b1
              try clear c8b2
              try clear c14
              try clear c14b0
              try clear c14b1
              try clear c15
              try clear p2
              try clear p6
              obtain ⟨x3_2, x5_2, rfl, rfl, HA, HK2, HB⟩ := hrel
              cases gk with
              | zero => exact absurd HA.out (by simp [armadalaw12_DigestBlocks.l0])
              | succ k2 =>
                have H := HA.out
                clear HA
                simp only [armadalaw12_DigestBlocks.l0] at H
                by_cases c16 : x5_2 < ((a0 ++ t255).size : Int)
                · rw [if_pos c16] at H
                  have c16b0 : decide (x5_2 < ((a0.size : Int) + (t255.size : Int))) = true := by rw [← sz_app]; exact decide_eq_true c16
                  clear c16
                  by_cases c17 : 0 ≤ x5_2
                  · rw [if_pos c17] at H
                    have c17b0 := eq_true c17
                    have c17b1 : decide (0 ≤ x5_2) = true := decide_eq_true c17
                    clear c17
                    by_cases c18 : x5_2 ≤ (wrap64 (x5_2 + 64))
                    · rw [if_pos c18] at H
                      have c18b0 := eq_true c18
                      have c18b1 : decide (x5_2 ≤ (wrap64 (x5_2 + 64))) = true := decide_eq_true c18
                      by_cases c19 : (wrap64 (x5_2 + 64)) ≤ ((a0 ++ t255).size : Int)
                      · rw [if_pos c19] at H
                        have c19b0 : ((wrap64 (x5_2 + 64)) ≤ ((a0.size : Int) + (t255.size : Int))) = True := by rw [← sz_app]; exact eq_true c19
                        have c19b1 : decide ((wrap64 (x5_2 + 64)) ≤ ((a0.size : Int) + (t255.size : Int))) = true := by rw [← sz_app]; exact decide_eq_true c19
                        replace H := Option.bind_eq_some_iff.mp H
                        obtain ⟨⟨t256, t257⟩, A200, H⟩ := H
                        replace H : (if t257 = true then (if (t256.size : Int) = 32 then (armadalaw12_DigestBlocks.l0 k2 a0 t256 (a0 ++ t255) (wrap64 (x5_2 + 64))) else (some false)) else (some false)) = some true := H
                        have A20 := Aside0.mk A200
                        clear A200
                        by_cases c21 : t257 = true
                        · subst c21
                          have H1 : (if (t256.size : Int) = 32 then (armadalaw12_DigestBlocks.l0 k2 a0 t256 (a0 ++ t255) (wrap64 (x5_2 + 64))) else (some false)) = some true := by rw [if_pos rfl] at H; exact H
                          clear H
                          have H := H1
                          clear H1
                          by_cases c22 : (t256.size : Int) = 32
                          · rw [if_pos c22] at H
                            have c22b0 : ((t256.size : Int) == 32) = true := beq_iff_eq.mpr c22
                            have c22b1 : ((t256.size : Int) != 32) = false := bne_eq_false_iff_eq.mpr c22
                            clear c22
                            have H' := Aside0.mk H
                            clear H
                            go_wp2_with (first | ((with_reducible refine gate_callee (f := 9) rfl ?_); refine goesL_ (some 44) rfl rfl Try.func9 (by kernel_rfl) rfl #[.string x3_2, .string ((a0 ++ t255).extract (x5_2 : Int).toNat ((wrap64 (x5_2 + 64)) : Int).toNat)] rfl (by (try simp only [List.map_toArray, List.map_cons, List.map_nil]); first | done | rfl | (simp only [List.length_drop, List.length_take]; rfl)) ?_; (with_reducible refine (digest_Block.calls x3_2 ((a0 ++ t255).extract (x5_2 : Int).toNat ((wrap64 (x5_2 + 64)) : Int).toNat) t256 true _ A20.out).mono ?_); rintro e w23 ⟨rfl, hb⟩; refine ⟨_, rfl, ?_⟩; have n0_ := Aside0.mk (below_step (by repeat (first | (with_reducible first | exact HB.out | apply below_alloc | apply pw_below_drewN | apply below_drew1) | exact HB.out)) hb); clear HB; have HB := n0_; clear n0_; (try clear hb); (try clear hb2); (try clear hk); (try clear hi)))
                            go_roundg k2
                            case measure => have := HJ8.out; have := HK2.out; omega
                            case rel => exact ⟨(t256), (wrap64 (x5_2 + 64)), (by first | rfl | (simp; done) | (simp [*]; done)), (by first | rfl | (simp; done) | (simp [*]; done)), H', ⟨by have := HJ8.out; have := HK2.out; omega⟩, ⟨by repeat (first | (with_reducible first | exact HB.out | apply below_alloc | apply pw_below_drewN | apply below_drew1) | exact HB.out)⟩⟩
                          · rw [if_neg c22] at H
                            have c22b0 : ((t256.size : Int) == 32) = false := beq_eq_false_iff_ne.mpr c22
                            have c22b1 : ((t256.size : Int) != 32) = true := bne_iff_ne.mpr c22
                            exact absurd H (by simp)
                        · replace c21 := Bool.eq_false_iff.mpr c21
                          subst c21
                          have H1 : (some false) = some true := by rw [if_neg (show ¬ (false = true) by decide)] at H; exact H
                          clear H
                          have H := H1
                          clear H1
                          exact absurd H (by simp)
                      · rw [if_neg c19] at H
                        exact absurd H (by simp)
                    · rw [if_neg c18] at H
                      exact absurd H (by simp)
                  · rw [if_neg c17] at H
                    exact absurd H (by simp)
                · rw [if_neg c16] at H
                  have c16b0 : decide (x5_2 < ((a0.size : Int) + (t255.size : Int))) = false := by rw [← sz_app]; exact decide_eq_false c16
                  clear c16
                  replace H := Option.bind_eq_some_iff.mp H
                  obtain ⟨t258, A240, H⟩ := H
                  replace H : (if t258.toList = x3_2.toList then ((digest_Hex.f x3_2).bind fun t259 => (if (t259.size : Int) = 64 then ((armadalaw12_live.f).bind fun t260 => (some t260)) else (some false))) else (some false)) = some true := H
                  have A24 := Aside0.mk A240
                  clear A240
                  by_cases c25 : t258.toList = x3_2.toList
                  · rw [if_pos c25] at H
                    have c25b0 : (t258.toList == x3_2.toList) = true := beq_iff_eq.mpr c25
                    have c25b1 : (t258.toList != x3_2.toList) = false := bne_eq_false_iff_eq.mpr c25
                    clear c25
                    replace H := Option.bind_eq_some_iff.mp H
                    obtain ⟨t259, A260, H⟩ := H
                    replace H : (if (t259.size : Int) = 64 then ((armadalaw12_live.f).bind fun t260 => (some t260)) else (some false)) = some true := H
                    have A26 := Aside0.mk A260
                    clear A260
                    by_cases c27 : (t259.size : Int) = 64
                    · rw [if_pos c27] at H
                      have c27b0 : ((t259.size : Int) == 64) = true := beq_iff_eq.mpr c27
                      have c27b1 : ((t259.size : Int) != 64) = false := bne_eq_false_iff_eq.mpr c27
                      clear c27
                      replace H := Option.bind_eq_some_iff.mp H
                      obtain ⟨t260, A280, H⟩ := H
                      replace H : (some t260) = some true := H
                      have A28 := Aside0.mk A280
                      clear A280
                      obtain rfl := Option.some.inj H
                      go_wp2_with (first | ((with_reducible refine gate_callee (f := 11) rfl ?_); refine goesL_ (some 56) rfl rfl Try.func11 (by kernel_rfl) rfl #[.string a0] rfl (by (try simp only [List.map_toArray, List.map_cons, List.map_nil]); first | done | rfl | (simp only [List.length_drop, List.length_take]; rfl)) ?_; (with_reducible refine (digest_Of.calls a0 t258 _ A24.out).mono ?_); rintro e w29 ⟨rfl, hb⟩; refine ⟨_, rfl, ?_⟩; have n0_ := Aside0.mk (below_step (by repeat (first | (with_reducible first | exact HB.out | apply below_alloc | apply pw_below_drewN | apply below_drew1) | exact HB.out)) hb); clear HB; have HB := n0_; clear n0_; (try clear hb); (try clear hb2); (try clear hk); (try clear hi)) | (go_at_call 13; (with_reducible refine (digest_Hex.calls x3_2 t259 _ A26.out).mono ?_); rintro e w30 ⟨rfl, hb⟩; have n0_ := Aside0.mk (below_step (by repeat (first | (with_reducible first | exact HB.out | apply below_alloc | apply pw_below_drewN | apply below_drew1) | exact HB.out)) hb); clear HB; have HB := n0_; clear n0_; (try clear hb); (try clear hb2); (try clear hk); (try clear hi)) | (go_at_call 8; (with_reducible refine (armadalaw12_live.calls  true _ A28.out).mono ?_); rintro e w31 ⟨rfl, hb⟩; have n0_ := Aside0.mk (below_step (by repeat (first | (with_reducible first | exact HB.out | apply below_alloc | apply pw_below_drewN | apply below_drew1) | exact HB.out)) hb); clear HB; have HB := n0_; clear n0_; (try clear hb); (try clear hb2); (try clear hk); (try clear hi)))
                      go_ret
                      exact ⟨by first | rfl | (simp [errW_none, errW_some] <;> rfl) | (simp [*, errW_none, errW_some] <;> rfl), by repeat (first | (with_reducible first | exact HB.out | apply below_alloc | apply pw_below_drewN | apply below_drew1) | exact HB.out)⟩
                    · rw [if_neg c27] at H
                      have c27b0 : ((t259.size : Int) == 64) = false := beq_eq_false_iff_ne.mpr c27
                      have c27b1 : ((t259.size : Int) != 64) = true := bne_iff_ne.mpr c27
                      exact absurd H (by simp)
                  · rw [if_neg c25] at H
                    have c25b0 : (t258.toList == x3_2.toList) = false := beq_eq_false_iff_ne.mpr c25
                    have c25b1 : (t258.toList != x3_2.toList) = true := bne_iff_ne.mpr c25
                    exact absurd H (by simp)
    · rw [if_neg c8] at H
      exact absurd H (by simp)

/-- THE ONE PURE STATEMENT of armadalaw12_DigestBlocks: yours. -/
def armadalaw12_DigestBlocks.Pure : Prop := ∀ (a0 : ByteArray), a0.size ≤ 140737488351232 → ∃ k, armadalaw12_DigestBlocks.f k a0 = some true
theorem armadalaw12_DigestBlocks.walk (P : armadalaw12_DigestBlocks.Pure) (a0 : ByteArray) (w : World) (w0 : a0.size ≤ 140737488351232) :
    Calls Try.prog 4 #[.string a0] w fun e w' => e = .returned (.bool true) ∧ Below w.heap.size w w' := by
  obtain ⟨k, h⟩ := P a0 w0
  refine (armadalaw12_DigestBlocks.calls k a0 true w h).mono ?_
  rintro e w' ⟨rfl, hd⟩
  exact ⟨rfl, hd⟩

end Go.Proofs.Ytkejacgedipoeaa.P
