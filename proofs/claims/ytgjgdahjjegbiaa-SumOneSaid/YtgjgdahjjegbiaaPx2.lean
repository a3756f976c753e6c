-- PRINTED by print.py (a twelfth state) out of the translation. Not trusted: Lean checks it.
import Derived.Test.YtgjgdahjjegbiaaPx0
import Derived.Test.YtgjgdahjjegbiaaPx1
namespace Go.Proofs.Ytgjgdahjjegbiaa.P
open Go.RowKit Go.Proofs.YtgjgdahjjegbiaaW.PrintWords Go.Proofs.YtgjgdahjjegbiaaW.PrintLast Go.Proofs.YtgjgdahjjegbiaaW.PrintMore
attribute [local go_sem] max2_int min2_int max_two min_two max_three min_three max_four min_four   -- for this text's walks alone
set_option linter.unusedVariables false
set_option linter.unusedSimpArgs false

/-! ### armadalaw02_SumHalves: function 6 -/
mutual
def armadalaw02_SumHalves.j0 : Nat → Int → Int → Bool → Option (Bool)
  | 0, _, _, _ => none
  | k + 1, x0, x1, x21 => if x21 = true then ((armadalaw02_live.f k).bind fun t133 => (some t133)) else (if 0 ≤ x1 then (if (x1 : Int).toNat ≤ 281474976710656 then (armadalaw02_SumHalves.l0 k x0 x1 (List.replicate (x1 : Int).toNat 0) 0) else (none)) else (none))
def armadalaw02_SumHalves.l0 : Nat → Int → Int → List Int → Int → Option (Bool)
  | 0, _, _, _, _ => none
  | k + 1, x0, x1, x5, x6 => if x6 < x1 then (if 0 ≤ x6 then (if x6 < (x5.length : Int) then (armadalaw02_SumHalves.l0 k x0 x1 (x5.set (x6 : Int).toNat ((x0) % 256)) (wrap64 (x6 + 1))) else (none)) else (none)) else ((sum_Of.f k (strOfNums x5)).bind fun t138 => (if (Int.tmod t138 65536) = (Int.tmod (wrap64 (1 + (wrap64 (x1 * x0)))) 65521) then (if (wrap64 (Int.tdiv t138 65536)) = (Int.tmod (wrap64 (x1 + (wrap64 (x0 * (wrap64 (Int.tdiv (wrap64 (x1 * (wrap64 (x1 + 1)))) 2)))))) 65521) then ((armadalaw02_live.f k).bind fun t139 => (some t139)) else (some false)) else (some false)))
end
def armadalaw02_SumHalves.f (k : Nat) (a0 : Int) (a1 : Int) : Option (Bool) := if a0 < 0 then (armadalaw02_SumHalves.j0 k a0 a1 true) else (if a0 > 255 then (armadalaw02_SumHalves.j0 k a0 a1 true) else (if a1 < 0 then (armadalaw02_SumHalves.j0 k a0 a1 true) else (armadalaw02_SumHalves.j0 k a0 a1 (decide (a1 > 60000)))))
theorem armadalaw02_SumHalves.mono_l : ∀ k, (∀ y0 y1 y2, LeO (armadalaw02_SumHalves.j0 k y0 y1 y2) (armadalaw02_SumHalves.j0 (k + 1) y0 y1 y2)) ∧ (∀ y0 y1 y2 y3, LeO (armadalaw02_SumHalves.l0 k y0 y1 y2 y3) (armadalaw02_SumHalves.l0 (k + 1) y0 y1 y2 y3))
  | 0 => ⟨fun _ _ _ r h => by simp [armadalaw02_SumHalves.j0] at h, fun _ _ _ _ r h => by simp [armadalaw02_SumHalves.l0] at h⟩
  | k + 1 => by
    obtain ⟨ih0, ih1⟩ := armadalaw02_SumHalves.mono_l k
    refine ⟨?_, ?_⟩
    · intro y0 y1 y2
      unfold armadalaw02_SumHalves.j0
      repeat' first
      | (with_reducible exact ih0 _ _ _)
      | (with_reducible exact ih1 _ _ _ _)
      | (with_reducible exact armadalaw02_live.mono _)
      | (with_reducible exact sum_Of.mono _ _)
      | (with_reducible exact LeO.refl _)
      | (with_reducible exact LeO.none _)
      | (with_reducible refine LeO.ite ?_ ?_)
      | (with_reducible refine LeO.bind ?_ (fun _ => ?_))
      | exact ih0 _ _ _
      | exact ih1 _ _ _ _
      | exact armadalaw02_live.mono _
      | exact sum_Of.mono _ _
      | exact LeO.none _
      | refine LeO.ite ?_ ?_
      | refine LeO.bind ?_ (fun _ => ?_)
    · intro y0 y1 y2 y3
      unfold armadalaw02_SumHalves.l0
      repeat' first
      | (with_reducible exact ih0 _ _ _)
      | (with_reducible exact ih1 _ _ _ _)
      | (with_reducible exact armadalaw02_live.mono _)
      | (with_reducible exact sum_Of.mono _ _)
      | (with_reducible exact LeO.refl _)
      | (with_reducible exact LeO.none _)
      | (with_reducible refine LeO.ite ?_ ?_)
      | (with_reducible refine LeO.bind ?_ (fun _ => ?_))
      | exact ih0 _ _ _
      | exact ih1 _ _ _ _
      | exact armadalaw02_live.mono _
      | exact sum_Of.mono _ _
      | exact LeO.none _
      | refine LeO.ite ?_ ?_
      | refine LeO.bind ?_ (fun _ => ?_)
theorem armadalaw02_SumHalves.mono : ∀ a0 a1 k, LeO (armadalaw02_SumHalves.f k a0 a1) (armadalaw02_SumHalves.f (k + 1) a0 a1) := by
  intro a0 a1 k
  obtain ⟨ih0, ih1⟩ := armadalaw02_SumHalves.mono_l k
  unfold armadalaw02_SumHalves.f
  repeat' first
      | (with_reducible exact ih0 _ _ _)
      | (with_reducible exact ih1 _ _ _ _)
      | (with_reducible exact armadalaw02_live.mono _)
      | (with_reducible exact sum_Of.mono _ _)
      | (with_reducible exact LeO.refl _)
      | (with_reducible exact LeO.none _)
      | (with_reducible refine LeO.ite ?_ ?_)
      | (with_reducible refine LeO.bind ?_ (fun _ => ?_))
      | exact ih0 _ _ _
      | exact ih1 _ _ _ _
      | exact armadalaw02_live.mono _
      | exact sum_Of.mono _ _
      | exact LeO.none _
      | refine LeO.ite ?_ ?_
      | refine LeO.bind ?_ (fun _ => ?_)
set_option maxHeartbeats 8000000 in
set_option maxRecDepth 100000 in
theorem armadalaw02_SumHalves.calls (k : Nat) (a0 : Int) (a1 : Int) (r : Bool) (w : World) (h : armadalaw02_SumHalves.f k a0 a1 = some r) :
    Calls Try.prog 6 #[.int .i64 a0, .int .i64 a1] w fun e w' => e = .returned (.bool r) ∧ Below w.heap.size w w' := by
  have HB := Aside0.mk (Below.refl w.heap.size w)
  have H : (if a0 < 0 then (armadalaw02_SumHalves.j0 k a0 a1 true) else (if a0 > 255 then (armadalaw02_SumHalves.j0 k a0 a1 true) else (if a1 < 0 then (armadalaw02_SumHalves.j0 k a0 a1 true) else (armadalaw02_SumHalves.j0 k a0 a1 (decide (a1 > 60000)))))) = some r := h
  clear h
  have HC3 := Aside0.mk H
  clear H
  go_enter Try.func6, Try.ntmps6
  go_upto_region 1 with (fail)
  go_cut [21] (fun v21 wc => ∃ (kq : Nat) (x21_2 : Bool), v21 = .bool x21_2 ∧ Aside0 (armadalaw02_SumHalves.j0 kq a0 a1 x21_2 = some r) ∧ Aside0 (kq ≤ k) ∧ Aside0 (Below w.heap.size w wc))
  case first =>
    have H := HC3.out
    clear HC3
    by_cases c4 : a0 < 0
    · rw [if_pos c4] at H
      have c4b0 : decide (a0 < 0) = true := decide_eq_true c4
      clear c4
      (first | rw [c4b0] | (simp only [i64_w, i32_w]; rw [c4b0]) | skip)
      have H' := Aside0.mk H
      clear H
      go_wp2
      go_meet
      case rel => exact ⟨_, (true), (by first | rfl | (simp; done) | (simp [*]; done)), H', ⟨by first | omega | exact Nat.le_refl _⟩, ⟨by repeat (first | (with_reducible first | exact HB.out | apply below_alloc | apply pw_below_drewN | apply below_drew1) | exact HB.out)⟩⟩
    · rw [if_neg c4] at H
      have c4b0 : decide (a0 < 0) = false := decide_eq_false c4
      clear c4
      (first | rw [c4b0] | (simp only [i64_w, i32_w]; rw [c4b0]) | skip)
      by_cases c5 : a0 > 255
      · rw [if_pos c5] at H
        have c5b0 : decide (255 < a0) = true := decide_eq_true c5
        clear c5
        have H' := Aside0.mk H
        clear H
        go_wp2
        go_meet
        case rel => exact ⟨_, (true), (by first | rfl | (simp; done) | (simp [*]; done)), H', ⟨by first | omega | exact Nat.le_refl _⟩, ⟨by repeat (first | (with_reducible first | exact HB.out | apply below_alloc | apply pw_below_drewN | apply below_drew1) | exact HB.out)⟩⟩
      · rw [if_neg c5] at H
        have c5b0 : decide (255 < a0) = false := decide_eq_false c5
        clear c5
        by_cases c6 : a1 < 0
        · rw [if_pos c6] at H
          have c6b0 : decide (a1 < 0) = true := decide_eq_true c6
          clear c6
          have H' := Aside0.mk H
          clear H
          go_wp2
          go_meet
          case rel => exact ⟨_, (true), (by first | rfl | (simp; done) | (simp [*]; done)), H', ⟨by first | omega | exact Nat.le_refl _⟩, ⟨by repeat (first | (with_reducible first | exact HB.out | apply below_alloc | apply pw_below_drewN | apply below_drew1) | exact HB.out)⟩⟩
        · rw [if_neg c6] at H
          have c6b0 : decide (a1 < 0) = false := decide_eq_false c6
          clear c6
          have H' := Aside0.mk H
          clear H
          go_wp2
          go_meet
          case rel => exact ⟨_, (decide (a1 > 60000)), (by first | rfl | (simp; done) | (simp [*]; done)), H', ⟨by first | omega | exact Nat.le_refl _⟩, ⟨by repeat (first | (with_reducible first | exact HB.out | apply below_alloc | apply pw_below_drewN | apply below_drew1) | exact HB.out)⟩⟩
  case rest =>
    clear HC3
    try clear p2
    try clear c4
    try clear c4b0
    try clear c5
    try clear c5b0
    try clear c6
    try clear c6b0
    obtain ⟨kq, x21_2, rfl, HA, HJ2, HB⟩ := hcut
    cases kq with
    | zero => exact absurd HA.out (by simp [armadalaw02_SumHalves.j0])
    | succ kj2 =>
      have H := HA.out
      clear HA
      simp only [armadalaw02_SumHalves.j0] at H
      by_cases c7 : x21_2 = true
      · subst c7
        have H1 : ((armadalaw02_live.f kj2).bind fun t133 => (some t133)) = some r := by rw [if_pos rfl] at H; exact H
        clear H
        have H := H1
        clear H1
        replace H := Option.bind_eq_some_iff.mp H
        obtain ⟨t133, A80, H⟩ := H
        replace H : (some t133) = some r := H
        have A8 := Aside0.mk A80
        clear A80
        obtain rfl := Option.some.inj H
        go_wp2_with (first | ((with_reducible refine gate_callee (f := 8) rfl ?_); refine goesL_ (some 22) rfl rfl Try.func8 (by kernel_rfl) rfl #[] rfl (by (try simp only [List.map_toArray, List.map_cons, List.map_nil]); first | done | rfl | (simp only [List.length_drop, List.length_take]; rfl)) ?_; (with_reducible refine (armadalaw02_live.calls kj2  t133 _ A8.out).mono ?_); rintro e w' ⟨rfl, ⟨nd, rfl⟩⟩; refine ⟨_, rfl, ?_⟩) | (go_at_call 8; (with_reducible refine (armadalaw02_live.calls kj2  t133 _ A8.out).mono ?_); rintro e w' ⟨rfl, ⟨nd, rfl⟩⟩))
        go_ret
        exact ⟨by first | rfl | (simp [errW_none, errW_some] <;> rfl) | (simp [*, errW_none, errW_some] <;> rfl), by repeat (first | (with_reducible first | exact HB.out | apply below_alloc | apply pw_below_drewN | apply below_drew1) | exact HB.out)⟩
      · replace c7 := Bool.eq_false_iff.mpr c7
        subst c7
        have H1 : (if 0 ≤ a1 then (if (a1 : Int).toNat ≤ 281474976710656 then (armadalaw02_SumHalves.l0 kj2 a0 a1 (List.replicate (a1 : Int).toNat 0) 0) else (none)) else (none)) = some r := by rw [if_neg (show ¬ (false = true) by decide)] at H; exact H
        clear H
        have H := H1
        clear H1
        by_cases c9 : 0 ≤ a1
        · rw [if_pos c9] at H
          have c9b0 := eq_true c9
          have c9b1 : decide (0 ≤ a1) = true := decide_eq_true c9
          clear c9
          by_cases c10 : (a1 : Int).toNat ≤ 281474976710656
          · rw [if_pos c10] at H
            have c10b0 := eq_true c10
            have c10b1 : decide ((a1 : Int).toNat ≤ 281474976710656) = true := decide_eq_true c10
            clear c10
            obtain ⟨y134, hy134⟩ : ∃ y_ : List Int, y_ = (List.replicate (a1 : Int).toNat 0) := ⟨_, rfl⟩
            replace H : (armadalaw02_SumHalves.l0 kj2 a0 a1 y134 0) = some r := by first | (rw [hy134]; with_reducible exact H) | (have H2_ := (Option.bind_some _ _).symm.trans H; rw [hy134]; with_reducible exact H2_) | (have H2_ := (Option.bind_some _ _).symm.trans H; with_reducible exact H2_) | with_reducible exact H | (rw [hy134]; exact H) | exact H
            have Ny134 := Aside0.mk hy134
            clear hy134
            have H' := Aside0.mk H
            clear H
            go_wp2_with (first | ((with_reducible refine gate_dst (N := 24) rfl ?_); refine Kd.R_make (Kd.int .u8) _ 5 rfl (N := 24) rfl 29 _ _ rfl a1 rfl rfl Try.underlying29 (.int .u8 0) 1 info5 rfl (by decide) (by omega) 0 (ok := fun _ => True) (okp := fun _ => True) rfl (fun _ hk => hk) trivial (of_decide_eq_true (by first | (with_reducible assumption) | assumption)) (Nat.le_trans (Nat.mul_le_mul_right _ (of_decide_eq_true (by first | (with_reducible assumption) | assumption) : a1.toNat ≤ 281474976710656)) (by omega)) (Below.refl _ _) (Nat.le_refl _) ?_; intro v135 w11 ho12 hb hg_ hnew_; clear hg_ hnew_; (first | rw [← Ny134.out] at ho12 | (simp only [Int.reduceToNat] at ho12; rw [← Ny134.out] at ho12)); have n0_ := Aside0.mk (Kd.R_lower ho12 (below_size (by repeat (first | (with_reducible first | exact HB.out | apply below_alloc | apply pw_below_drewN | apply below_drew1) | exact HB.out)))); have n1_ := Aside0.mk (below_step (by repeat (first | (with_reducible first | exact HB.out | apply below_alloc | apply pw_below_drewN | apply below_drew1) | exact HB.out)) hb); clear HB; have HO136 := n0_; have HB := n1_; clear n0_ n1_; clear hb ho12))
            go_loopg [6] kj2 (fun kq v6 w' => ∃ (x5_2 : List Int) (x6_2 : Int), v6 = .int .i64 x6_2 ∧ Aside0 (armadalaw02_SumHalves.l0 kq a0 a1 x5_2 x6_2 = some r) ∧ Aside0 (kq ≤ kj2) ∧ Aside0 (Kd.R (Kd.int .u8) 5 w' w.heap.size (fun _ => True) v135 x5_2) ∧ Aside0 (Below w.heap.size w w'))
            case atStart => exact ⟨(y134), (0), (by first | rfl | (simp; done) | (simp [*]; done)), H', ⟨Nat.le_refl _⟩, ⟨by (with_reducible repeat (first | apply Kd.R_alloc | apply Kd.R_drewN | apply Kd.R_drew)); exact HO136.out⟩, ⟨by repeat (first | (with_reducible first | exact HB.out | apply below_alloc | apply pw_below_drewN | apply below_drew1) | exact HB.out)⟩⟩
            case round =>
              clear H'
              try clear c1
              try clear p2
              try clear c4
              try clear c4b0
              try clear c5
              try clear c5b0
              try clear c6
              try clear c6b0
              try clear c7
              try clear c8
              try clear c9
              try clear c9b0
              try clear c9b1
              try clear c10
              try clear c10b0
              try clear c10b1
              try clear p2
              obtain ⟨x5_2, x6_2, rfl, HA, HK2, HO_5, HB⟩ := hrel
              cases gk with
              | zero => exact absurd HA.out (by simp [armadalaw02_SumHalves.l0])
              | succ k2 =>
                have H := HA.out
                clear HA
                simp only [armadalaw02_SumHalves.l0] at H
                by_cases c13 : x6_2 < a1
                · rw [if_pos c13] at H
                  have c13b0 : decide (x6_2 < a1) = true := decide_eq_true c13
                  clear c13
                  by_cases c14 : 0 ≤ x6_2
                  · rw [if_pos c14] at H
                    have c14b0 : decide (0 ≤ x6_2) = true := decide_eq_true c14
                    clear c14
                    by_cases c15 : x6_2 < (x5_2.length : Int)
                    · rw [if_pos c15] at H
                      have c15b0 : decide (x6_2 < (x5_2.length : Int)) = true := decide_eq_true c15
                      clear c15
                      obtain ⟨y137, hy137⟩ : ∃ y_ : List Int, y_ = (x5_2.set (x6_2 : Int).toNat ((a0) % 256)) := ⟨_, rfl⟩
                      replace H : (armadalaw02_SumHalves.l0 k2 a0 a1 y137 (wrap64 (x6_2 + 1))) = some r := by first | (rw [hy137]; with_reducible exact H) | (have H2_ := (Option.bind_some _ _).symm.trans H; rw [hy137]; with_reducible exact H2_) | (have H2_ := (Option.bind_some _ _).symm.trans H; with_reducible exact H2_) | with_reducible exact H | (rw [hy137]; exact H) | exact H
                      have Ny137 := Aside0.mk hy137
                      clear hy137
                      have H' := Aside0.mk H
                      clear H
                      have p16 : 0 ≤ (x6_2 : Int) := of_decide_eq_true (by first | (with_reducible assumption) | assumption)
                      have q16 : (x6_2 : Int) < ((x5_2.length : Int) : Int) := of_decide_eq_true (by first | (with_reducible assumption) | assumption)
                      obtain ⟨go16, co16, eo16, gb16, gl16, cl16, HG16⟩ := Kd.R_form HO_5.out (by omega)
                      (first | cases eo16 | (injection eo16 with ea_ en_ ec_; (first | subst ea_ | (injection ea_ with ea_; subst ea_)); subst ec_; clear en_))
                      have GB16 := Aside0.mk gb16
                      have GG16 := Aside0.mk HG16
                      clear gb16 gl16 HG16
                      obtain ⟨hx16_0, hf16_0⟩ := Kd.R_celln 0 HO_5.out (x6_2 : Int) p16 q16
                      replace p16 := eq_true p16
                      replace q16 := eq_true q16
                      have HP17 := Kd.R_putg HO_5.out (x6_2 : Int) ((a0) % 256)
                      go_wp2_with (first | ((with_reducible refine gate_store (t := 5) (p := 34) rfl ?_); refine store_event (t := 5) (p := 34) (v := ?vo_w18) (w1 := (wr.setCell ⟨go16, (x6_2 : Int).toNat, none⟩ (.int .u8 ((a0) % 256)))) ?hg ?ho ?hn ?hr ?_; (case ho => rfl); (case hg => rfl); (case hn => rfl); (case hr => first | (go_simp; done) | (go_simp; rfl)); intro w18 hw; have hg : wr.grownBy w18 (some go16) := (by rw [hw]; exact HP17.2); have hp_ : Kd.R (Kd.int .u8) 5 w18 w.heap.size (fun _ => True) (.slice (some ⟨go16, 0, none⟩) x5_2.length co16) y137 := (by rw [hw, Ny137.out]; exact HP17.1); clear HP17; have n0_ := Aside0.mk (hp_); have n1_ := Aside0.mk ((by rw [hw]; exact below_set (HB.out) GB16.out : Below w.heap.size w w18)); clear HO_5; clear HB; have HO_5 := n0_; have HB := n1_; clear n0_ n1_; clear hg hw hp_))
                      go_roundg k2
                      case measure => have := HJ2.out; have := HK2.out; omega
                      case rel => exact ⟨(y137), (wrap64 (x6_2 + 1)), (by first | rfl | (simp; done) | (simp [*]; done)), H', ⟨by have := HJ2.out; have := HK2.out; omega⟩, ⟨by (with_reducible repeat (first | apply Kd.R_alloc | apply Kd.R_drewN | apply Kd.R_drew)); exact HO_5.out⟩, ⟨by repeat (first | (with_reducible first | exact HB.out | apply below_alloc | apply pw_below_drewN | apply below_drew1) | exact HB.out)⟩⟩
                    · rw [if_neg c15] at H
                      exact absurd H (by simp)
                  · rw [if_neg c14] at H
                    exact absurd H (by simp)
                · rw [if_neg c13] at H
                  have c13b0 : decide (x6_2 < a1) = false := decide_eq_false c13
                  clear c13
                  replace H := Option.bind_eq_some_iff.mp H
                  obtain ⟨t138, A190, H⟩ := H
                  replace H : (if (Int.tmod t138 65536) = (Int.tmod (wrap64 (1 + (wrap64 (a1 * a0)))) 65521) then (if (wrap64 (Int.tdiv t138 65536)) = (Int.tmod (wrap64 (a1 + (wrap64 (a0 * (wrap64 (Int.tdiv (wrap64 (a1 * (wrap64 (a1 + 1)))) 2)))))) 65521) then ((armadalaw02_live.f k2).bind fun t139 => (some t139)) else (some false)) else (some false)) = some r := H
                  have A19 := Aside0.mk A190
                  clear A190
                  by_cases c20 : (Int.tmod t138 65536) = (Int.tmod (wrap64 (1 + (wrap64 (a1 * a0)))) 65521)
                  · rw [if_pos c20] at H
                    have c20b0 : ((Int.tmod t138 65536) == (Int.tmod (wrap64 (1 + (wrap64 (a1 * a0)))) 65521)) = true := beq_iff_eq.mpr c20
                    have c20b1 : ((Int.tmod t138 65536) != (Int.tmod (wrap64 (1 + (wrap64 (a1 * a0)))) 65521)) = false := bne_eq_false_iff_eq.mpr c20
                    clear c20
                    by_cases c21 : (wrap64 (Int.tdiv t138 65536)) = (Int.tmod (wrap64 (a1 + (wrap64 (a0 * (wrap64 (Int.tdiv (wrap64 (a1 * (wrap64 (a1 + 1)))) 2)))))) 65521)
                    · rw [if_pos c21] at H
                      have c21b0 : ((wrap64 (Int.tdiv t138 65536)) == (Int.tmod (wrap64 (a1 + (wrap64 (a0 * (wrap64 (Int.tdiv (wrap64 (a1 * (wrap64 (a1 + 1)))) 2)))))) 65521)) = true := beq_iff_eq.mpr c21
                      have c21b1 : ((wrap64 (Int.tdiv t138 65536)) != (Int.tmod (wrap64 (a1 + (wrap64 (a0 * (wrap64 (Int.tdiv (wrap64 (a1 * (wrap64 (a1 + 1)))) 2)))))) 65521)) = false := bne_eq_false_iff_eq.mpr c21
                      clear c21
                      replace H := Option.bind_eq_some_iff.mp H
                      obtain ⟨t139, A220, H⟩ := H
                      replace H : (some t139) = some r := H
                      have A22 := Aside0.mk A220
                      clear A220
                      obtain rfl := Option.some.inj H
                      have hcv23 := own_string (P := Try.prog) Try.underlying29 Try.underlying5 Try.underlying9 (Kd.own_of_R HO_5.out)
                      go_wp2_with (first | ((with_reducible refine gate_callee (f := 9) rfl ?_); refine goesL_ (some 37) rfl rfl Try.func9 (by kernel_rfl) rfl #[.string (strOfNums x5_2)] rfl (by (try simp only [List.map_toArray, List.map_cons, List.map_nil]); first | done | rfl | (simp only [List.length_drop, List.length_take]; rfl)) ?_; (with_reducible refine (sum_Of.calls k2 (strOfNums x5_2) t138 _ A19.out).mono ?_); rintro e w' ⟨rfl, ⟨nd, rfl⟩⟩; refine ⟨_, rfl, ?_⟩) | (go_at_call 9; (with_reducible refine (sum_Of.calls k2 (strOfNums x5_2) t138 _ A19.out).mono ?_); rintro e w' ⟨rfl, ⟨nd, rfl⟩⟩) | (go_at_call 8; (with_reducible refine (armadalaw02_live.calls k2  t139 _ A22.out).mono ?_); rintro e w' ⟨rfl, ⟨nd, rfl⟩⟩))
                      go_ret
                      exact ⟨by first | rfl | (simp [errW_none, errW_some] <;> rfl) | (simp [*, errW_none, errW_some] <;> rfl), by repeat (first | (with_reducible first | exact HB.out | apply below_alloc | apply pw_below_drewN | apply below_drew1) | exact HB.out)⟩
                    · rw [if_neg c21] at H
                      have c21b0 : ((wrap64 (Int.tdiv t138 65536)) == (Int.tmod (wrap64 (a1 + (wrap64 (a0 * (wrap64 (Int.tdiv (wrap64 (a1 * (wrap64 (a1 + 1)))) 2)))))) 65521)) = false := beq_eq_false_iff_ne.mpr c21
                      have c21b1 : ((wrap64 (Int.tdiv t138 65536)) != (Int.tmod (wrap64 (a1 + (wrap64 (a0 * (wrap64 (Int.tdiv (wrap64 (a1 * (wrap64 (a1 + 1)))) 2)))))) 65521)) = true := bne_iff_ne.mpr c21
                      obtain rfl := Option.some.inj H
                      have hcv24 := own_string (P := Try.prog) Try.underlying29 Try.underlying5 Try.underlying9 (Kd.own_of_R HO_5.out)
                      go_wp2_with (first | ((with_reducible refine gate_callee (f := 9) rfl ?_); refine goesL_ (some 37) rfl rfl Try.func9 (by kernel_rfl) rfl #[.string (strOfNums x5_2)] rfl (by (try simp only [List.map_toArray, List.map_cons, List.map_nil]); first | done | rfl | (simp only [List.length_drop, List.length_take]; rfl)) ?_; (with_reducible refine (sum_Of.calls k2 (strOfNums x5_2) t138 _ A19.out).mono ?_); rintro e w' ⟨rfl, ⟨nd, rfl⟩⟩; refine ⟨_, rfl, ?_⟩) | (go_at_call 9; (with_reducible refine (sum_Of.calls k2 (strOfNums x5_2) t138 _ A19.out).mono ?_); rintro e w' ⟨rfl, ⟨nd, rfl⟩⟩))
                      go_ret
                      exact ⟨by first | rfl | (simp [errW_none, errW_some] <;> rfl) | (simp [*, errW_none, errW_some] <;> rfl), by repeat (first | (with_reducible first | exact HB.out | apply below_alloc | apply pw_below_drewN | apply below_drew1) | exact HB.out)⟩
                  · rw [if_neg c20] at H
                    have c20b0 : ((Int.tmod t138 65536) == (Int.tmod (wrap64 (1 + (wrap64 (a1 * a0)))) 65521)) = false := beq_eq_false_iff_ne.mpr c20
                    have c20b1 : ((Int.tmod t138 65536) != (Int.tmod (wrap64 (1 + (wrap64 (a1 * a0)))) 65521)) = true := bne_iff_ne.mpr c20
                    obtain rfl := Option.some.inj H
                    have hcv25 := own_string (P := Try.prog) Try.underlying29 Try.underlying5 Try.underlying9 (Kd.own_of_R HO_5.out)
                    go_wp2_with (first | ((with_reducible refine gate_callee (f := 9) rfl ?_); refine goesL_ (some 37) rfl rfl Try.func9 (by kernel_rfl) rfl #[.string (strOfNums x5_2)] rfl (by (try simp only [List.map_toArray, List.map_cons, List.map_nil]); first | done | rfl | (simp only [List.length_drop, List.length_take]; rfl)) ?_; (with_reducible refine (sum_Of.calls k2 (strOfNums x5_2) t138 _ A19.out).mono ?_); rintro e w' ⟨rfl, ⟨nd, rfl⟩⟩; refine ⟨_, rfl, ?_⟩) | (go_at_call 9; (with_reducible refine (sum_Of.calls k2 (strOfNums x5_2) t138 _ A19.out).mono ?_); rintro e w' ⟨rfl, ⟨nd, rfl⟩⟩))
                    go_ret
                    exact ⟨by first | rfl | (simp [errW_none, errW_some] <;> rfl) | (simp [*, errW_none, errW_some] <;> rfl), by repeat (first | (with_reducible first | exact HB.out | apply below_alloc | apply pw_below_drewN | apply below_drew1) | exact HB.out)⟩
          · rw [if_neg c10] at H
            exact absurd H (by simp)
        · rw [if_neg c9] at H
          exact absurd H (by simp)

/-- THE ONE PURE STATEMENT of armadalaw02_SumHalves: yours. -/
def armadalaw02_SumHalves.Pure : Prop := ∀ (a0 : Int) (a1 : Int), (Lit.int .i64 a0).wf = true → (Lit.int .i64 a1).wf = true → ∃ k, armadalaw02_SumHalves.f k a0 a1 = some true
theorem armadalaw02_SumHalves.walk (P : armadalaw02_SumHalves.Pure) (a0 : Int) (a1 : Int) (w : World) (w0 : (Lit.int .i64 a0).wf = true) (w1 : (Lit.int .i64 a1).wf = true) :
    Calls Try.prog 6 #[.int .i64 a0, .int .i64 a1] w fun e w' => e = .returned (.bool true) ∧ Below w.heap.size w w' := by
  obtain ⟨k, h⟩ := P a0 a1 w0 w1
  refine (armadalaw02_SumHalves.calls k a0 a1 true w h).mono ?_
  rintro e w' ⟨rfl, hd⟩
  exact ⟨rfl, hd⟩

/-! ### armadalaw02_SumJoins: function 7 -/
def armadalaw02_SumJoins.j0 : Nat → ByteArray → ByteArray → ByteArray → Bool → Option (Bool)
  | 0, _, _, _, _ => none
  | k + 1, x0, x1, x2, x24 => if x24 = true then ((armadalaw02_live.f k).bind fun t140 => (some t140)) else ((sum_Of.f k x0).bind fun t141 => ((sum_Of.f k x1).bind fun t142 => ((sum_Of.f k x2).bind fun t143 => ((sum_Join.f t141 t142 (x1.size : Int)).bind fun t144 => ((sum_Join.f t144 t143 (x2.size : Int)).bind fun t145 => ((sum_Join.f t142 t143 (x2.size : Int)).bind fun t146 => ((sum_Join.f t141 t146 (wrap64 ((x1.size : Int) + (x2.size : Int)))).bind fun t147 => (if t145 = t147 then (if x0.size + x1.size ≤ 9223372036854775807 then (if (x0 ++ x1).size + x2.size ≤ 9223372036854775807 then ((sum_Of.f k ((x0 ++ x1) ++ x2)).bind fun t148 => (if t145 = t148 then ((sum_Join.f t141 1 0).bind fun t149 => (if t149 = t141 then ((sum_Join.f 1 t142 (x1.size : Int)).bind fun t150 => (if t150 = t142 then ((armadalaw02_live.f k).bind fun t151 => (some t151)) else (some false))) else (some false))) else (some false))) else (none)) else (none)) else (some false)))))))))
def armadalaw02_SumJoins.f (k : Nat) (a0 : ByteArray) (a1 : ByteArray) (a2 : ByteArray) : Option (Bool) := if (a0.size : Int) > 2000 then (armadalaw02_SumJoins.j0 k a0 a1 a2 true) else (if (a1.size : Int) > 2000 then (armadalaw02_SumJoins.j0 k a0 a1 a2 true) else (armadalaw02_SumJoins.j0 k a0 a1 a2 (decide ((a2.size : Int) > 2000))))
theorem armadalaw02_SumJoins.mono_l : ∀ k, (∀ y0 y1 y2 y3, LeO (armadalaw02_SumJoins.j0 k y0 y1 y2 y3) (armadalaw02_SumJoins.j0 (k + 1) y0 y1 y2 y3))
  | 0 => fun _ _ _ _ r h => by simp [armadalaw02_SumJoins.j0] at h
  | k + 1 => by
    have ih0 := armadalaw02_SumJoins.mono_l k
    · intro y0 y1 y2 y3
      unfold armadalaw02_SumJoins.j0
      repeat' first
      | (with_reducible exact ih0 _ _ _ _)
      | (with_reducible exact armadalaw02_live.mono _)
      | (with_reducible exact sum_Of.mono _ _)
      | (with_reducible exact LeO.refl _)
      | (with_reducible exact LeO.none _)
      | (with_reducible refine LeO.ite ?_ ?_)
      | (with_reducible refine LeO.bind ?_ (fun _ => ?_))
      | exact ih0 _ _ _ _
      | exact armadalaw02_live.mono _
      | exact sum_Of.mono _ _
      | exact LeO.none _
      | refine LeO.ite ?_ ?_
      | refine LeO.bind ?_ (fun _ => ?_)
theorem armadalaw02_SumJoins.mono : ∀ a0 a1 a2 k, LeO (armadalaw02_SumJoins.f k a0 a1 a2) (armadalaw02_SumJoins.f (k + 1) a0 a1 a2) := by
  intro a0 a1 a2 k
  have ih0 := armadalaw02_SumJoins.mono_l k
  unfold armadalaw02_SumJoins.f
  repeat' first
      | (with_reducible exact ih0 _ _ _ _)
      | (with_reducible exact armadalaw02_live.mono _)
      | (with_reducible exact sum_Of.mono _ _)
      | (with_reducible exact LeO.refl _)
      | (with_reducible exact LeO.none _)
      | (with_reducible refine LeO.ite ?_ ?_)
      | (with_reducible refine LeO.bind ?_ (fun _ => ?_))
      | exact ih0 _ _ _ _
      | exact armadalaw02_live.mono _
      | exact sum_Of.mono _ _
      | exact LeO.none _
      | refine LeO.ite ?_ ?_
      | refine LeO.bind ?_ (fun _ => ?_)
set_option maxHeartbeats 8000000 in
set_option maxRecDepth 100000 in
theorem armadalaw02_SumJoins.calls (k : Nat) (a0 : ByteArray) (a1 : ByteArray) (a2 : ByteArray) (r : Bool) (w : World) (h : armadalaw02_SumJoins.f k a0 a1 a2 = some r) :
    Calls Try.prog 7 #[.string a0, .string a1, .string a2] w fun e w' => e = .returned (.bool r) ∧ Drawn0 w w' := by
  have H : (if (a0.size : Int) > 2000 then (armadalaw02_SumJoins.j0 k a0 a1 a2 true) else (if (a1.size : Int) > 2000 then (armadalaw02_SumJoins.j0 k a0 a1 a2 true) else (armadalaw02_SumJoins.j0 k a0 a1 a2 (decide ((a2.size : Int) > 2000))))) = some r := h
  clear h
  have HC4 := Aside0.mk H
  clear H
  go_enter Try.func7, Try.ntmps7
  go_upto_region 1 with (fail)
  go_cut [24] (fun v24 wc => ∃ (kq : Nat) (x24_3 : Bool), v24 = .bool x24_3 ∧ Aside0 (armadalaw02_SumJoins.j0 kq a0 a1 a2 x24_3 = some r) ∧ Aside0 (kq ≤ k) ∧ Drawn0 w wc)
  case first =>
    have H := HC4.out
    clear HC4
    by_cases c5 : (a0.size : Int) > 2000
    · rw [if_pos c5] at H
      have c5b0 : decide (2000 < (a0.size : Int)) = true := decide_eq_true c5
      have c5b1 : decide (2000 < a0.size) = true := decide_eq_true (by omega)
      clear c5
      (first | rw [c5b0] | (simp only [i64_w, i32_w]; rw [c5b0]) | skip)
      have H' := Aside0.mk H
      clear H
      go_wp2
      go_meet
      case rel => exact ⟨_, (true), (by first | rfl | (simp; done) | (simp [*]; done)), H', ⟨by first | omega | exact Nat.le_refl _⟩, by repeat (first | exact Drawn0.refl _ | apply Drawn0.step)⟩
    · rw [if_neg c5] at H
      have c5b0 : decide (2000 < (a0.size : Int)) = false := decide_eq_false c5
      have c5b1 : decide (2000 < a0.size) = false := decide_eq_false (by omega)
      clear c5
      (first | rw [c5b0] | (simp only [i64_w, i32_w]; rw [c5b0]) | skip)
      by_cases c6 : (a1.size : Int) > 2000
      · rw [if_pos c6] at H
        have c6b0 : decide (2000 < (a1.size : Int)) = true := decide_eq_true c6
        have c6b1 : decide (2000 < a1.size) = true := decide_eq_true (by omega)
        clear c6
        have H' := Aside0.mk H
        clear H
        go_wp2
        go_meet
        case rel => exact ⟨_, (true), (by first | rfl | (simp; done) | (simp [*]; done)), H', ⟨by first | omega | exact Nat.le_refl _⟩, by repeat (first | exact Drawn0.refl _ | apply Drawn0.step)⟩
      · rw [if_neg c6] at H
        have c6b0 : decide (2000 < (a1.size : Int)) = false := decide_eq_false c6
        have c6b1 : decide (2000 < a1.size) = false := decide_eq_false (by omega)
        clear c6
        have H' := Aside0.mk H
        clear H
        go_wp2
        go_meet
        case rel => exact ⟨_, (decide ((a2.size : Int) > 2000)), (by first | rfl | (simp; done) | (simp [*]; done)), H', ⟨by first | omega | exact Nat.le_refl _⟩, by repeat (first | exact Drawn0.refl _ | apply Drawn0.step)⟩
  case rest =>
    clear HC4
    try clear p2
    try clear c5
    try clear c5b0
    try clear c5b1
    try clear c6
    try clear c6b0
    try clear c6b1
    obtain ⟨kq, x24_3, rfl, HA, HJ3, ⟨mc3, rfl⟩⟩ := hcut
    cases kq with
    | zero => exact absurd HA.out (by simp [armadalaw02_SumJoins.j0])
    | succ kj3 =>
      have H := HA.out
      clear HA
      simp only [armadalaw02_SumJoins.j0] at H
      by_cases c7 : x24_3 = true
      · subst c7
        have H1 : ((armadalaw02_live.f kj3).bind fun t140 => (some t140)) = some r := by rw [if_pos rfl] at H; exact H
        clear H
        have H := H1
        clear H1
        replace H := Option.bind_eq_some_iff.mp H
        obtain ⟨t140, A80, H⟩ := H
        replace H : (some t140) = some r := H
        have A8 := Aside0.mk A80
        clear A80
        obtain rfl := Option.some.inj H
        go_wp2_with (first | ((with_reducible refine gate_callee (f := 8) rfl ?_); refine goesL_ (some 25) rfl rfl Try.func8 (by kernel_rfl) rfl #[] rfl (by (try simp only [List.map_toArray, List.map_cons, List.map_nil]); first | done | rfl | (simp only [List.length_drop, List.length_take]; rfl)) ?_; (with_reducible refine (armadalaw02_live.calls kj3  t140 _ A8.out).mono ?_); rintro e w' ⟨rfl, ⟨nd, rfl⟩⟩; refine ⟨_, rfl, ?_⟩) | (go_at_call 8; (with_reducible refine (armadalaw02_live.calls kj3  t140 _ A8.out).mono ?_); rintro e w' ⟨rfl, ⟨nd, rfl⟩⟩))
        go_ret
        exact ⟨by first | rfl | (simp; done) | (simp [*]; done), by repeat (first | exact Drawn0.refl _ | apply Drawn0.step)⟩
      · replace c7 := Bool.eq_false_iff.mpr c7
        subst c7
        have H1 : ((sum_Of.f kj3 a0).bind fun t141 => ((sum_Of.f kj3 a1).bind fun t142 => ((sum_Of.f kj3 a2).bind fun t143 => ((sum_Join.f t141 t142 (a1.size : Int)).bind fun t144 => ((sum_Join.f t144 t143 (a2.size : Int)).bind fun t145 => ((sum_Join.f t142 t143 (a2.size : Int)).bind fun t146 => ((sum_Join.f t141 t146 (wrap64 ((a1.size : Int) + (a2.size : Int)))).bind fun t147 => (if t145 = t147 then (if a0.size + a1.size ≤ 9223372036854775807 then (if (a0 ++ a1).size + a2.size ≤ 9223372036854775807 then ((sum_Of.f kj3 ((a0 ++ a1) ++ a2)).bind fun t148 => (if t145 = t148 then ((sum_Join.f t141 1 0).bind fun t149 => (if t149 = t141 then ((sum_Join.f 1 t142 (a1.size : Int)).bind fun t150 => (if t150 = t142 then ((armadalaw02_live.f kj3).bind fun t151 => (some t151)) else (some false))) else (some false))) else (some false))) else (none)) else (none)) else (some false))))))))) = some r := by rw [if_neg (show ¬ (false = true) by decide)] at H; exact H
        clear H
        have H := H1
        clear H1
        replace H := Option.bind_eq_some_iff.mp H
        obtain ⟨t141, A90, H⟩ := H
        replace H : ((sum_Of.f kj3 a1).bind fun t142 => ((sum_Of.f kj3 a2).bind fun t143 => ((sum_Join.f t141 t142 (a1.size : Int)).bind fun t144 => ((sum_Join.f t144 t143 (a2.size : Int)).bind fun t145 => ((sum_Join.f t142 t143 (a2.size : Int)).bind fun t146 => ((sum_Join.f t141 t146 (wrap64 ((a1.size : Int) + (a2.size : Int)))).bind fun t147 => (if t145 = t147 then (if a0.size + a1.size ≤ 9223372036854775807 then (if (a0 ++ a1).size + a2.size ≤ 9223372036854775807 then ((sum_Of.f kj3 ((a0 ++ a1) ++ a2)).bind fun t148 => (if t145 = t148 then ((sum_Join.f t141 1 0).bind fun t149 => (if t149 = t141 then ((sum_Join.f 1 t142 (a1.size : Int)).bind fun t150 => (if t150 = t142 then ((armadalaw02_live.f kj3).bind fun t151 => (some t151)) else (some false))) else (some false))) else (some false))) else (none)) else (none)) else (some false)))))))) = some r := H
        have A9 := Aside0.mk A90
        clear A90
        replace H := Option.bind_eq_some_iff.mp H
        obtain ⟨t142, A100, H⟩ := H
        replace H : ((sum_Of.f kj3 a2).bind fun t143 => ((sum_Join.f t141 t142 (a1.size : Int)).bind fun t144 => ((sum_Join.f t144 t143 (a2.size : Int)).bind fun t145 => ((sum_Join.f t142 t143 (a2.size : Int)).bind fun t146 => ((sum_Join.f t141 t146 (wrap64 ((a1.size : Int) + (a2.size : Int)))).bind fun t147 => (if t145 = t147 then (if a0.size + a1.size ≤ 9223372036854775807 then (if (a0 ++ a1).size + a2.size ≤ 9223372036854775807 then ((sum_Of.f kj3 ((a0 ++ a1) ++ a2)).bind fun t148 => (if t145 = t148 then ((sum_Join.f t141 1 0).bind fun t149 => (if t149 = t141 then ((sum_Join.f 1 t142 (a1.size : Int)).bind fun t150 => (if t150 = t142 then ((armadalaw02_live.f kj3).bind fun t151 => (some t151)) else (some false))) else (some false))) else (some false))) else (none)) else (none)) else (some false))))))) = some r := H
        have A10 := Aside0.mk A100
        clear A100
        replace H := Option.bind_eq_some_iff.mp H
        obtain ⟨t143, A110, H⟩ := H
        replace H : ((sum_Join.f t141 t142 (a1.size : Int)).bind fun t144 => ((sum_Join.f t144 t143 (a2.size : Int)).bind fun t145 => ((sum_Join.f t142 t143 (a2.size : Int)).bind fun t146 => ((sum_Join.f t141 t146 (wrap64 ((a1.size : Int) + (a2.size : Int)))).bind fun t147 => (if t145 = t147 then (if a0.size + a1.size ≤ 9223372036854775807 then (if (a0 ++ a1).size + a2.size ≤ 9223372036854775807 then ((sum_Of.f kj3 ((a0 ++ a1) ++ a2)).bind fun t148 => (if t145 = t148 then ((sum_Join.f t141 1 0).bind fun t149 => (if t149 = t141 then ((sum_Join.f 1 t142 (a1.size : Int)).bind fun t150 => (if t150 = t142 then ((armadalaw02_live.f kj3).bind fun t151 => (some t151)) else (some false))) else (some false))) else (some false))) else (none)) else (none)) else (some false)))))) = some r := H
        have A11 := Aside0.mk A110
        clear A110
        replace H := Option.bind_eq_some_iff.mp H
        obtain ⟨t144, A120, H⟩ := H
        replace H : ((sum_Join.f t144 t143 (a2.size : Int)).bind fun t145 => ((sum_Join.f t142 t143 (a2.size : Int)).bind fun t146 => ((sum_Join.f t141 t146 (wrap64 ((a1.size : Int) + (a2.size : Int)))).bind fun t147 => (if t145 = t147 then (if a0.size + a1.size ≤ 9223372036854775807 then (if (a0 ++ a1).size + a2.size ≤ 9223372036854775807 then ((sum_Of.f kj3 ((a0 ++ a1) ++ a2)).bind fun t148 => (if t145 = t148 then ((sum_Join.f t141 1 0).bind fun t149 => (if t149 = t141 then ((sum_Join.f 1 t142 (a1.size : Int)).bind fun t150 => (if t150 = t142 then ((armadalaw02_live.f kj3).bind fun t151 => (some t151)) else (some false))) else (some false))) else (some false))) else (none)) else (none)) else (some false))))) = some r := H
        have A12 := Aside0.mk A120
        clear A120
        replace H := Option.bind_eq_some_iff.mp H
        obtain ⟨t145, A130, H⟩ := H
        replace H : ((sum_Join.f t142 t143 (a2.size : Int)).bind fun t146 => ((sum_Join.f t141 t146 (wrap64 ((a1.size : Int) + (a2.size : Int)))).bind fun t147 => (if t145 = t147 then (if a0.size + a1.size ≤ 9223372036854775807 then (if (a0 ++ a1).size + a2.size ≤ 9223372036854775807 then ((sum_Of.f kj3 ((a0 ++ a1) ++ a2)).bind fun t148 => (if t145 = t148 then ((sum_Join.f t141 1 0).bind fun t149 => (if t149 = t141 then ((sum_Join.f 1 t142 (a1.size : Int)).bind fun t150 => (if t150 = t142 then ((armadalaw02_live.f kj3).bind fun t151 => (some t151)) else (some false))) else (some false))) else (some false))) else (none)) else (none)) else (some false)))) = some r := H
        have A13 := Aside0.mk A130
        clear A130
        replace H := Option.bind_eq_some_iff.mp H
        obtain ⟨t146, A140, H⟩ := H
        replace H : ((sum_Join.f t141 t146 (wrap64 ((a1.size : Int) + (a2.size : Int)))).bind fun t147 => (if t145 = t147 then (if a0.size + a1.size ≤ 9223372036854775807 then (if (a0 ++ a1).size + a2.size ≤ 9223372036854775807 then ((sum_Of.f kj3 ((a0 ++ a1) ++ a2)).bind fun t148 => (if t145 = t148 then ((sum_Join.f t141 1 0).bind fun t149 => (if t149 = t141 then ((sum_Join.f 1 t142 (a1.size : Int)).bind fun t150 => (if t150 = t142 then ((armadalaw02_live.f kj3).bind fun t151 => (some t151)) else (some false))) else (some false))) else (some false))) else (none)) else (none)) else (some false))) = some r := H
        have A14 := Aside0.mk A140
        clear A140
        replace H := Option.bind_eq_some_iff.mp H
        obtain ⟨t147, A150, H⟩ := H
        replace H : (if t145 = t147 then (if a0.size + a1.size ≤ 9223372036854775807 then (if (a0 ++ a1).size + a2.size ≤ 9223372036854775807 then ((sum_Of.f kj3 ((a0 ++ a1) ++ a2)).bind fun t148 => (if t145 = t148 then ((sum_Join.f t141 1 0).bind fun t149 => (if t149 = t141 then ((sum_Join.f 1 t142 (a1.size : Int)).bind fun t150 => (if t150 = t142 then ((armadalaw02_live.f kj3).bind fun t151 => (some t151)) else (some false))) else (some false))) else (some false))) else (none)) else (none)) else (some false)) = some r := H
        have A15 := Aside0.mk A150
        clear A150
        by_cases c16 : t145 = t147
        · rw [if_pos c16] at H
          have c16b0 : (t145 == t147) = true := beq_iff_eq.mpr c16
          have c16b1 : (t145 != t147) = false := bne_eq_false_iff_eq.mpr c16
          clear c16
          by_cases c17 : a0.size + a1.size ≤ 9223372036854775807
          · rw [if_pos c17] at H
            have c17b0 := eq_true c17
            have c17b1 : decide (a0.size + a1.size ≤ 9223372036854775807) = true := decide_eq_true c17
            try have c17b2 : (9223372036854775807 < a0.size + a1.size) = False := eq_false (Nat.not_lt.2 c17)
            by_cases c18 : (a0 ++ a1).size + a2.size ≤ 9223372036854775807
            · rw [if_pos c18] at H
              have c18b0 := eq_true c18
              have c18b1 : decide ((a0 ++ a1).size + a2.size ≤ 9223372036854775807) = true := decide_eq_true c18
              try have c18b2 : (9223372036854775807 < (a0 ++ a1).size + a2.size) = False := eq_false (Nat.not_lt.2 c18)
              replace H := Option.bind_eq_some_iff.mp H
              obtain ⟨t148, A190, H⟩ := H
              replace H : (if t145 = t148 then ((sum_Join.f t141 1 0).bind fun t149 => (if t149 = t141 then ((sum_Join.f 1 t142 (a1.size : Int)).bind fun t150 => (if t150 = t142 then ((armadalaw02_live.f kj3).bind fun t151 => (some t151)) else (some false))) else (some false))) else (some false)) = some r := H
              have A19 := Aside0.mk A190
              clear A190
              by_cases c20 : t145 = t148
              · rw [if_pos c20] at H
                have c20b0 : (t145 == t148) = true := beq_iff_eq.mpr c20
                have c20b1 : (t145 != t148) = false := bne_eq_false_iff_eq.mpr c20
                clear c20
                replace H := Option.bind_eq_some_iff.mp H
                obtain ⟨t149, A210, H⟩ := H
                replace H : (if t149 = t141 then ((sum_Join.f 1 t142 (a1.size : Int)).bind fun t150 => (if t150 = t142 then ((armadalaw02_live.f kj3).bind fun t151 => (some t151)) else (some false))) else (some false)) = some r := H
                have A21 := Aside0.mk A210
                clear A210
                by_cases c22 : t149 = t141
                · rw [if_pos c22] at H
                  have c22b0 : (t149 == t141) = true := beq_iff_eq.mpr c22
                  have c22b1 : (t149 != t141) = false := bne_eq_false_iff_eq.mpr c22
                  clear c22
                  replace H := Option.bind_eq_some_iff.mp H
                  obtain ⟨t150, A230, H⟩ := H
                  replace H : (if t150 = t142 then ((armadalaw02_live.f kj3).bind fun t151 => (some t151)) else (some false)) = some r := H
                  have A23 := Aside0.mk A230
                  clear A230
                  by_cases c24 : t150 = t142
                  · rw [if_pos c24] at H
                    have c24b0 : (t150 == t142) = true := beq_iff_eq.mpr c24
                    have c24b1 : (t150 != t142) = false := bne_eq_false_iff_eq.mpr c24
                    clear c24
                    replace H := Option.bind_eq_some_iff.mp H
                    obtain ⟨t151, A250, H⟩ := H
                    replace H : (some t151) = some r := H
                    have A25 := Aside0.mk A250
                    clear A250
                    obtain rfl := Option.some.inj H
                    go_wp2_with (first | ((with_reducible refine gate_callee (f := 9) rfl ?_); refine goesL_ (some 27) rfl rfl Try.func9 (by kernel_rfl) rfl #[.string a0] rfl (by (try simp only [List.map_toArray, List.map_cons, List.map_nil]); first | done | rfl | (simp only [List.length_drop, List.length_take]; rfl)) ?_; (with_reducible refine (sum_Of.calls kj3 a0 t141 _ A9.out).mono ?_); rintro e w' ⟨rfl, ⟨nd, rfl⟩⟩; refine ⟨_, rfl, ?_⟩) | (go_at_call 9; (with_reducible refine (sum_Of.calls kj3 a0 t141 _ A9.out).mono ?_); rintro e w' ⟨rfl, ⟨nd, rfl⟩⟩) | ((with_reducible refine gate_callee (f := 9) rfl ?_); refine goesL_ (some 29) rfl rfl Try.func9 (by kernel_rfl) rfl #[.string a1] rfl (by (try simp only [List.map_toArray, List.map_cons, List.map_nil]); first | done | rfl | (simp only [List.length_drop, List.length_take]; rfl)) ?_; (with_reducible refine (sum_Of.calls kj3 a1 t142 _ A10.out).mono ?_); rintro e w' ⟨rfl, ⟨nd, rfl⟩⟩; refine ⟨_, rfl, ?_⟩) | (go_at_call 9; (with_reducible refine (sum_Of.calls kj3 a1 t142 _ A10.out).mono ?_); rintro e w' ⟨rfl, ⟨nd, rfl⟩⟩) | ((with_reducible refine gate_callee (f := 9) rfl ?_); refine goesL_ (some 31) rfl rfl Try.func9 (by kernel_rfl) rfl #[.string a2] rfl (by (try simp only [List.map_toArray, List.map_cons, List.map_nil]); first | done | rfl | (simp only [List.length_drop, List.length_take]; rfl)) ?_; (with_reducible refine (sum_Of.calls kj3 a2 t143 _ A11.out).mono ?_); rintro e w' ⟨rfl, ⟨nd, rfl⟩⟩; refine ⟨_, rfl, ?_⟩) | (go_at_call 9; (with_reducible refine (sum_Of.calls kj3 a2 t143 _ A11.out).mono ?_); rintro e w' ⟨rfl, ⟨nd, rfl⟩⟩) | ((with_reducible refine gate_callee (f := 13) rfl ?_); refine goesL_ (some 36) rfl rfl Try.func13 (by kernel_rfl) rfl #[.int .i64 t141, .int .i64 t142, .int .i64 (a1.size : Int)] rfl (by (try simp only [List.map_toArray, List.map_cons, List.map_nil]); first | done | rfl | (simp only [List.length_drop, List.length_take]; rfl)) ?_; (with_reducible refine (sum_Join.calls t141 t142 (a1.size : Int) t144 _ A12.out).mono ?_); rintro e w' ⟨rfl, ⟨nd, rfl⟩⟩; refine ⟨_, rfl, ?_⟩) | (go_at_call 13; (with_reducible refine (sum_Join.calls t141 t142 (a1.size : Int) t144 _ A12.out).mono ?_); rintro e w' ⟨rfl, ⟨nd, rfl⟩⟩) | ((with_reducible refine gate_callee (f := 13) rfl ?_); refine goesL_ (some 40) rfl rfl Try.func13 (by kernel_rfl) rfl #[.int .i64 t144, .int .i64 t143, .int .i64 (a2.size : Int)] rfl (by (try simp only [List.map_toArray, List.map_cons, List.map_nil]); first | done | rfl | (simp only [List.length_drop, List.length_take]; rfl)) ?_; (with_reducible refine (sum_Join.calls t144 t143 (a2.size : Int) t145 _ A13.out).mono ?_); rintro e w' ⟨rfl, ⟨nd, rfl⟩⟩; refine ⟨_, rfl, ?_⟩) | (go_at_call 13; (with_reducible refine (sum_Join.calls t144 t143 (a2.size : Int) t145 _ A13.out).mono ?_); rintro e w' ⟨rfl, ⟨nd, rfl⟩⟩) | ((with_reducible refine gate_callee (f := 13) rfl ?_); refine goesL_ (some 46) rfl rfl Try.func13 (by kernel_rfl) rfl #[.int .i64 t142, .int .i64 t143, .int .i64 (a2.size : Int)] rfl (by (try simp only [List.map_toArray, List.map_cons, List.map_nil]); first | done | rfl | (simp only [List.length_drop, List.length_take]; rfl)) ?_; (with_reducible refine (sum_Join.calls t142 t143 (a2.size : Int) t146 _ A14.out).mono ?_); rintro e w' ⟨rfl, ⟨nd, rfl⟩⟩; refine ⟨_, rfl, ?_⟩) | (go_at_call 13; (with_reducible refine (sum_Join.calls t142 t143 (a2.size : Int) t146 _ A14.out).mono ?_); rintro e w' ⟨rfl, ⟨nd, rfl⟩⟩) | ((with_reducible refine gate_callee (f := 13) rfl ?_); refine goesL_ (some 52) rfl rfl Try.func13 (by kernel_rfl) rfl #[.int .i64 t141, .int .i64 t146, .int .i64 (wrap64 ((a1.size : Int) + (a2.size : Int)))] rfl (by (try simp only [List.map_toArray, List.map_cons, List.map_nil]); first | done | rfl | (simp only [List.length_drop, List.length_take]; rfl)) ?_; (with_reducible refine (sum_Join.calls t141 t146 (wrap64 ((a1.size : Int) + (a2.size : Int))) t147 _ A15.out).mono ?_); rintro e w' ⟨rfl, ⟨nd, rfl⟩⟩; refine ⟨_, rfl, ?_⟩) | (go_at_call 13; (with_reducible refine (sum_Join.calls t141 t146 (wrap64 ((a1.size : Int) + (a2.size : Int))) t147 _ A15.out).mono ?_); rintro e w' ⟨rfl, ⟨nd, rfl⟩⟩) | (go_at_call 9; (with_reducible refine (sum_Of.calls kj3 ((a0 ++ a1) ++ a2) t148 _ A19.out).mono ?_); rintro e w' ⟨rfl, ⟨nd, rfl⟩⟩) | (go_at_call 13; (with_reducible refine (sum_Join.calls t141 1 0 t149 _ A21.out).mono ?_); rintro e w' ⟨rfl, ⟨nd, rfl⟩⟩) | (go_at_call 13; (with_reducible refine (sum_Join.calls 1 t142 (a1.size : Int) t150 _ A23.out).mono ?_); rintro e w' ⟨rfl, ⟨nd, rfl⟩⟩) | (go_at_call 8; (with_reducible refine (armadalaw02_live.calls kj3  t151 _ A25.out).mono ?_); rintro e w' ⟨rfl, ⟨nd, rfl⟩⟩))
                    go_ret
                    exact ⟨by first | rfl | (simp; done) | (simp [*]; done), by repeat (first | exact Drawn0.refl _ | apply Drawn0.step)⟩
                  · rw [if_neg c24] at H
                    have c24b0 : (t150 == t142) = false := beq_eq_false_iff_ne.mpr c24
                    have c24b1 : (t150 != t142) = true := bne_iff_ne.mpr c24
                    obtain rfl := Option.some.inj H
                    go_wp2_with (first | ((with_reducible refine gate_callee (f := 9) rfl ?_); refine goesL_ (some 27) rfl rfl Try.func9 (by kernel_rfl) rfl #[.string a0] rfl (by (try simp only [List.map_toArray, List.map_cons, List.map_nil]); first | done | rfl | (simp only [List.length_drop, List.length_take]; rfl)) ?_; (with_reducible refine (sum_Of.calls kj3 a0 t141 _ A9.out).mono ?_); rintro e w' ⟨rfl, ⟨nd, rfl⟩⟩; refine ⟨_, rfl, ?_⟩) | (go_at_call 9; (with_reducible refine (sum_Of.calls kj3 a0 t141 _ A9.out).mono ?_); rintro e w' ⟨rfl, ⟨nd, rfl⟩⟩) | ((with_reducible refine gate_callee (f := 9) rfl ?_); refine goesL_ (some 29) rfl rfl Try.func9 (by kernel_rfl) rfl #[.string a1] rfl (by (try simp only [List.map_toArray, List.map_cons, List.map_nil]); first | done | rfl | (simp only [List.length_drop, List.length_take]; rfl)) ?_; (with_reducible refine (sum_Of.calls kj3 a1 t142 _ A10.out).mono ?_); rintro e w' ⟨rfl, ⟨nd, rfl⟩⟩; refine ⟨_, rfl, ?_⟩) | (go_at_call 9; (with_reducible refine (sum_Of.calls kj3 a1 t142 _ A10.out).mono ?_); rintro e w' ⟨rfl, ⟨nd, rfl⟩⟩) | ((with_reducible refine gate_callee (f := 9) rfl ?_); refine goesL_ (some 31) rfl rfl Try.func9 (by kernel_rfl) rfl #[.string a2] rfl (by (try simp only [List.map_toArray, List.map_cons, List.map_nil]); first | done | rfl | (simp only [List.length_drop, List.length_take]; rfl)) ?_; (with_reducible refine (sum_Of.calls kj3 a2 t143 _ A11.out).mono ?_); rintro e w' ⟨rfl, ⟨nd, rfl⟩⟩; refine ⟨_, rfl, ?_⟩) | (go_at_call 9; (with_reducible refine (sum_Of.calls kj3 a2 t143 _ A11.out).mono ?_); rintro e w' ⟨rfl, ⟨nd, rfl⟩⟩) | ((with_reducible refine gate_callee (f := 13) rfl ?_); refine goesL_ (some 36) rfl rfl Try.func13 (by kernel_rfl) rfl #[.int .i64 t141, .int .i64 t142, .int .i64 (a1.size : Int)] rfl (by (try simp only [List.map_toArray, List.map_cons, List.map_nil]); first | done | rfl | (simp only [List.length_drop, List.length_take]; rfl)) ?_; (with_reducible refine (sum_Join.calls t141 t142 (a1.size : Int) t144 _ A12.out).mono ?_); rintro e w' ⟨rfl, ⟨nd, rfl⟩⟩; refine ⟨_, rfl, ?_⟩) | (go_at_call 13; (with_reducible refine (sum_Join.calls t141 t142 (a1.size : Int) t144 _ A12.out).mono ?_); rintro e w' ⟨rfl, ⟨nd, rfl⟩⟩) | ((with_reducible refine gate_callee (f := 13) rfl ?_); refine goesL_ (some 40) rfl rfl Try.func13 (by kernel_rfl) rfl #[.int .i64 t144, .int .i64 t143, .int .i64 (a2.size : Int)] rfl (by (try simp only [List.map_toArray, List.map_cons, List.map_nil]); first | done | rfl | (simp only [List.length_drop, List.length_take]; rfl)) ?_; (with_reducible refine (sum_Join.calls t144 t143 (a2.size : Int) t145 _ A13.out).mono ?_); rintro e w' ⟨rfl, ⟨nd, rfl⟩⟩; refine ⟨_, rfl, ?_⟩) | (go_at_call 13; (with_reducible refine (sum_Join.calls t144 t143 (a2.size : Int) t145 _ A13.out).mono ?_); rintro e w' ⟨rfl, ⟨nd, rfl⟩⟩) | ((with_reducible refine gate_callee (f := 13) rfl ?_); refine goesL_ (some 46) rfl rfl Try.func13 (by kernel_rfl) rfl #[.int .i64 t142, .int .i64 t143, .int .i64 (a2.size : Int)] rfl (by (try simp only [List.map_toArray, List.map_cons, List.map_nil]); first | done | rfl | (simp only [List.length_drop, List.length_take]; rfl)) ?_; (with_reducible refine (sum_Join.calls t142 t143 (a2.size : Int) t146 _ A14.out).mono ?_); rintro e w' ⟨rfl, ⟨nd, rfl⟩⟩; refine ⟨_, rfl, ?_⟩) | (go_at_call 13; (with_reducible refine (sum_Join.calls t142 t143 (a2.size : Int) t146 _ A14.out).mono ?_); rintro e w' ⟨rfl, ⟨nd, rfl⟩⟩) | ((with_reducible refine gate_callee (f := 13) rfl ?_); refine goesL_ (some 52) rfl rfl Try.func13 (by kernel_rfl) rfl #[.int .i64 t141, .int .i64 t146, .int .i64 (wrap64 ((a1.size : Int) + (a2.size : Int)))] rfl (by (try simp only [List.map_toArray, List.map_cons, List.map_nil]); first | done | rfl | (simp only [List.length_drop, List.length_take]; rfl)) ?_; (with_reducible refine (sum_Join.calls t141 t146 (wrap64 ((a1.size : Int) + (a2.size : Int))) t147 _ A15.out).mono ?_); rintro e w' ⟨rfl, ⟨nd, rfl⟩⟩; refine ⟨_, rfl, ?_⟩) | (go_at_call 13; (with_reducible refine (sum_Join.calls t141 t146 (wrap64 ((a1.size : Int) + (a2.size : Int))) t147 _ A15.out).mono ?_); rintro e w' ⟨rfl, ⟨nd, rfl⟩⟩) | (go_at_call 9; (with_reducible refine (sum_Of.calls kj3 ((a0 ++ a1) ++ a2) t148 _ A19.out).mono ?_); rintro e w' ⟨rfl, ⟨nd, rfl⟩⟩) | (go_at_call 13; (with_reducible refine (sum_Join.calls t141 1 0 t149 _ A21.out).mono ?_); rintro e w' ⟨rfl, ⟨nd, rfl⟩⟩) | (go_at_call 13; (with_reducible refine (sum_Join.calls 1 t142 (a1.size : Int) t150 _ A23.out).mono ?_); rintro e w' ⟨rfl, ⟨nd, rfl⟩⟩))
                    go_ret
                    exact ⟨by first | rfl | (simp; done) | (simp [*]; done), by repeat (first | exact Drawn0.refl _ | apply Drawn0.step)⟩
                · rw [if_neg c22] at H
                  have c22b0 : (t149 == t141) = false := beq_eq_false_iff_ne.mpr c22
                  have c22b1 : (t149 != t141) = true := bne_iff_ne.mpr c22
                  obtain rfl := Option.some.inj H
                  go_wp2_with (first | ((with_reducible refine gate_callee (f := 9) rfl ?_); refine goesL_ (some 27) rfl rfl Try.func9 (by kernel_rfl) rfl #[.string a0] rfl (by (try simp only [List.map_toArray, List.map_cons, List.map_nil]); first | done | rfl | (simp only [List.length_drop, List.length_take]; rfl)) ?_; (with_reducible refine (sum_Of.calls kj3 a0 t141 _ A9.out).mono ?_); rintro e w' ⟨rfl, ⟨nd, rfl⟩⟩; refine ⟨_, rfl, ?_⟩) | (go_at_call 9; (with_reducible refine (sum_Of.calls kj3 a0 t141 _ A9.out).mono ?_); rintro e w' ⟨rfl, ⟨nd, rfl⟩⟩) | ((with_reducible refine gate_callee (f := 9) rfl ?_); refine goesL_ (some 29) rfl rfl Try.func9 (by kernel_rfl) rfl #[.string a1] rfl (by (try simp only [List.map_toArray, List.map_cons, List.map_nil]); first | done | rfl | (simp only [List.length_drop, List.length_take]; rfl)) ?_; (with_reducible refine (sum_Of.calls kj3 a1 t142 _ A10.out).mono ?_); rintro e w' ⟨rfl, ⟨nd, rfl⟩⟩; refine ⟨_, rfl, ?_⟩) | (go_at_call 9; (with_reducible refine (sum_Of.calls kj3 a1 t142 _ A10.out).mono ?_); rintro e w' ⟨rfl, ⟨nd, rfl⟩⟩) | ((with_reducible refine gate_callee (f := 9) rfl ?_); refine goesL_ (some 31) rfl rfl Try.func9 (by kernel_rfl) rfl #[.string a2] rfl (by (try simp only [List.map_toArray, List.map_cons, List.map_nil]); first | done | rfl | (simp only [List.length_drop, List.length_take]; rfl)) ?_; (with_reducible refine (sum_Of.calls kj3 a2 t143 _ A11.out).mono ?_); rintro e w' ⟨rfl, ⟨nd, rfl⟩⟩; refine ⟨_, rfl, ?_⟩) | (go_at_call 9; (with_reducible refine (sum_Of.calls kj3 a2 t143 _ A11.out).mono ?_); rintro e w' ⟨rfl, ⟨nd, rfl⟩⟩) | ((with_reducible refine gate_callee (f := 13) rfl ?_); refine goesL_ (some 36) rfl rfl Try.func13 (by kernel_rfl) rfl #[.int .i64 t141, .int .i64 t142, .int .i64 (a1.size : Int)] rfl (by (try simp only [List.map_toArray, List.map_cons, List.map_nil]); first | done | rfl | (simp only [List.length_drop, List.length_take]; rfl)) ?_; (with_reducible refine (sum_Join.calls t141 t142 (a1.size : Int) t144 _ A12.out).mono ?_); rintro e w' ⟨rfl, ⟨nd, rfl⟩⟩; refine ⟨_, rfl, ?_⟩) | (go_at_call 13; (with_reducible refine (sum_Join.calls t141 t142 (a1.size : Int) t144 _ A12.out).mono ?_); rintro e w' ⟨rfl, ⟨nd, rfl⟩⟩) | ((with_reducible refine gate_callee (f := 13) rfl ?_); refine goesL_ (some 40) rfl rfl Try.func13 (by kernel_rfl) rfl #[.int .i64 t144, .int .i64 t143, .int .i64 (a2.size : Int)] rfl (by (try simp only [List.map_toArray, List.map_cons, List.map_nil]); first | done | rfl | (simp only [List.length_drop, List.length_take]; rfl)) ?_; (with_reducible refine (sum_Join.calls t144 t143 (a2.size : Int) t145 _ A13.out).mono ?_); rintro e w' ⟨rfl, ⟨nd, rfl⟩⟩; refine ⟨_, rfl, ?_⟩) | (go_at_call 13; (with_reducible refine (sum_Join.calls t144 t143 (a2.size : Int) t145 _ A13.out).mono ?_); rintro e w' ⟨rfl, ⟨nd, rfl⟩⟩) | ((with_reducible refine gate_callee (f := 13) rfl ?_); refine goesL_ (some 46) rfl rfl Try.func13 (by kernel_rfl) rfl #[.int .i64 t142, .int .i64 t143, .int .i64 (a2.size : Int)] rfl (by (try simp only [List.map_toArray, List.map_cons, List.map_nil]); first | done | rfl | (simp only [List.length_drop, List.length_take]; rfl)) ?_; (with_reducible refine (sum_Join.calls t142 t143 (a2.size : Int) t146 _ A14.out).mono ?_); rintro e w' ⟨rfl, ⟨nd, rfl⟩⟩; refine ⟨_, rfl, ?_⟩) | (go_at_call 13; (with_reducible refine (sum_Join.calls t142 t143 (a2.size : Int) t146 _ A14.out).mono ?_); rintro e w' ⟨rfl, ⟨nd, rfl⟩⟩) | ((with_reducible refine gate_callee (f := 13) rfl ?_); refine goesL_ (some 52) rfl rfl Try.func13 (by kernel_rfl) rfl #[.int .i64 t141, .int .i64 t146, .int .i64 (wrap64 ((a1.size : Int) + (a2.size : Int)))] rfl (by (try simp only [List.map_toArray, List.map_cons, List.map_nil]); first | done | rfl | (simp only [List.length_drop, List.length_take]; rfl)) ?_; (with_reducible refine (sum_Join.calls t141 t146 (wrap64 ((a1.size : Int) + (a2.size : Int))) t147 _ A15.out).mono ?_); rintro e w' ⟨rfl, ⟨nd, rfl⟩⟩; refine ⟨_, rfl, ?_⟩) | (go_at_call 13; (with_reducible refine (sum_Join.calls t141 t146 (wrap64 ((a1.size : Int) + (a2.size : Int))) t147 _ A15.out).mono ?_); rintro e w' ⟨rfl, ⟨nd, rfl⟩⟩) | (go_at_call 9; (with_reducible refine (sum_Of.calls kj3 ((a0 ++ a1) ++ a2) t148 _ A19.out).mono ?_); rintro e w' ⟨rfl, ⟨nd, rfl⟩⟩) | (go_at_call 13; (with_reducible refine (sum_Join.calls t141 1 0 t149 _ A21.out).mono ?_); rintro e w' ⟨rfl, ⟨nd, rfl⟩⟩))
                  go_ret
                  exact ⟨by first | rfl | (simp; done) | (simp [*]; done), by repeat (first | exact Drawn0.refl _ | apply Drawn0.step)⟩
              · rw [if_neg c20] at H
                have c20b0 : (t145 == t148) = false := beq_eq_false_iff_ne.mpr c20
                have c20b1 : (t145 != t148) = true := bne_iff_ne.mpr c20
                obtain rfl := Option.some.inj H
                go_wp2_with (first | ((with_reducible refine gate_callee (f := 9) rfl ?_); refine goesL_ (some 27) rfl rfl Try.func9 (by kernel_rfl) rfl #[.string a0] rfl (by (try simp only [List.map_toArray, List.map_cons, List.map_nil]); first | done | rfl | (simp only [List.length_drop, List.length_take]; rfl)) ?_; (with_reducible refine (sum_Of.calls kj3 a0 t141 _ A9.out).mono ?_); rintro e w' ⟨rfl, ⟨nd, rfl⟩⟩; refine ⟨_, rfl, ?_⟩) | (go_at_call 9; (with_reducible refine (sum_Of.calls kj3 a0 t141 _ A9.out).mono ?_); rintro e w' ⟨rfl, ⟨nd, rfl⟩⟩) | ((with_reducible refine gate_callee (f := 9) rfl ?_); refine goesL_ (some 29) rfl rfl Try.func9 (by kernel_rfl) rfl #[.string a1] rfl (by (try simp only [List.map_toArray, List.map_cons, List.map_nil]); first | done | rfl | (simp only [List.length_drop, List.length_take]; rfl)) ?_; (with_reducible refine (sum_Of.calls kj3 a1 t142 _ A10.out).mono ?_); rintro e w' ⟨rfl, ⟨nd, rfl⟩⟩; refine ⟨_, rfl, ?_⟩) | (go_at_call 9; (with_reducible refine (sum_Of.calls kj3 a1 t142 _ A10.out).mono ?_); rintro e w' ⟨rfl, ⟨nd, rfl⟩⟩) | ((with_reducible refine gate_callee (f := 9) rfl ?_); refine goesL_ (some 31) rfl rfl Try.func9 (by kernel_rfl) rfl #[.string a2] rfl (by (try simp only [List.map_toArray, List.map_cons, List.map_nil]); first | done | rfl | (simp only [List.length_drop, List.length_take]; rfl)) ?_; (with_reducible refine (sum_Of.calls kj3 a2 t143 _ A11.out).mono ?_); rintro e w' ⟨rfl, ⟨nd, rfl⟩⟩; refine ⟨_, rfl, ?_⟩) | (go_at_call 9; (with_reducible refine (sum_Of.calls kj3 a2 t143 _ A11.out).mono ?_); rintro e w' ⟨rfl, ⟨nd, rfl⟩⟩) | ((with_reducible refine gate_callee (f := 13) rfl ?_); refine goesL_ (some 36) rfl rfl Try.func13 (by kernel_rfl) rfl #[.int .i64 t141, .int .i64 t142, .int .i64 (a1.size : Int)] rfl (by (try simp only [List.map_toArray, List.map_cons, List.map_nil]); first | done | rfl | (simp only [List.length_drop, List.length_take]; rfl)) ?_; (with_reducible refine (sum_Join.calls t141 t142 (a1.size : Int) t144 _ A12.out).mono ?_); rintro e w' ⟨rfl, ⟨nd, rfl⟩⟩; refine ⟨_, rfl, ?_⟩) | (go_at_call 13; (with_reducible refine (sum_Join.calls t141 t142 (a1.size : Int) t144 _ A12.out).mono ?_); rintro e w' ⟨rfl, ⟨nd, rfl⟩⟩) | ((with_reducible refine gate_callee (f := 13) rfl ?_); refine goesL_ (some 40) rfl rfl Try.func13 (by kernel_rfl) rfl #[.int .i64 t144, .int .i64 t143, .int .i64 (a2.size : Int)] rfl (by (try simp only [List.map_toArray, List.map_cons, List.map_nil]); first | done | rfl | (simp only [List.length_drop, List.length_take]; rfl)) ?_; (with_reducible refine (sum_Join.calls t144 t143 (a2.size : Int) t145 _ A13.out).mono ?_); rintro e w' ⟨rfl, ⟨nd, rfl⟩⟩; refine ⟨_, rfl, ?_⟩) | (go_at_call 13; (with_reducible refine (sum_Join.calls t144 t143 (a2.size : Int) t145 _ A13.out).mono ?_); rintro e w' ⟨rfl, ⟨nd, rfl⟩⟩) | ((with_reducible refine gate_callee (f := 13) rfl ?_); refine goesL_ (some 46) rfl rfl Try.func13 (by kernel_rfl) rfl #[.int .i64 t142, .int .i64 t143, .int .i64 (a2.size : Int)] rfl (by (try simp only [List.map_toArray, List.map_cons, List.map_nil]); first | done | rfl | (simp only [List.length_drop, List.length_take]; rfl)) ?_; (with_reducible refine (sum_Join.calls t142 t143 (a2.size : Int) t146 _ A14.out).mono ?_); rintro e w' ⟨rfl, ⟨nd, rfl⟩⟩; refine ⟨_, rfl, ?_⟩) | (go_at_call 13; (with_reducible refine (sum_Join.calls t142 t143 (a2.size : Int) t146 _ A14.out).mono ?_); rintro e w' ⟨rfl, ⟨nd, rfl⟩⟩) | ((with_reducible refine gate_callee (f := 13) rfl ?_); refine goesL_ (some 52) rfl rfl Try.func13 (by kernel_rfl) rfl #[.int .i64 t141, .int .i64 t146, .int .i64 (wrap64 ((a1.size : Int) + (a2.size : Int)))] rfl (by (try simp only [List.map_toArray, List.map_cons, List.map_nil]); first | done | rfl | (simp only [List.length_drop, List.length_take]; rfl)) ?_; (with_reducible refine (sum_Join.calls t141 t146 (wrap64 ((a1.size : Int) + (a2.size : Int))) t147 _ A15.out).mono ?_); rintro e w' ⟨rfl, ⟨nd, rfl⟩⟩; refine ⟨_, rfl, ?_⟩) | (go_at_call 13; (with_reducible refine (sum_Join.calls t141 t146 (wrap64 ((a1.size : Int) + (a2.size : Int))) t147 _ A15.out).mono ?_); rintro e w' ⟨rfl, ⟨nd, rfl⟩⟩) | (go_at_call 9; (with_reducible refine (sum_Of.calls kj3 ((a0 ++ a1) ++ a2) t148 _ A19.out).mono ?_); rintro e w' ⟨rfl, ⟨nd, rfl⟩⟩))
                go_ret
                exact ⟨by first | rfl | (simp; done) | (simp [*]; done), by repeat (first | exact Drawn0.refl _ | apply Drawn0.step)⟩
            · rw [if_neg c18] at H
              exact absurd H (by simp)
          · rw [if_neg c17] at H
            exact absurd H (by simp)
        · rw [if_neg c16] at H
          have c16b0 : (t145 == t147) = false := beq_eq_false_iff_ne.mpr c16
          have c16b1 : (t145 != t147) = true := bne_iff_ne.mpr c16
          obtain rfl := Option.some.inj H
          go_wp2_with (first | ((with_reducible refine gate_callee (f := 9) rfl ?_); refine goesL_ (some 27) rfl rfl Try.func9 (by kernel_rfl) rfl #[.string a0] rfl (by (try simp only [List.map_toArray, List.map_cons, List.map_nil]); first | done | rfl | (simp only [List.length_drop, List.length_take]; rfl)) ?_; (with_reducible refine (sum_Of.calls kj3 a0 t141 _ A9.out).mono ?_); rintro e w' ⟨rfl, ⟨nd, rfl⟩⟩; refine ⟨_, rfl, ?_⟩) | (go_at_call 9; (with_reducible refine (sum_Of.calls kj3 a0 t141 _ A9.out).mono ?_); rintro e w' ⟨rfl, ⟨nd, rfl⟩⟩) | ((with_reducible refine gate_callee (f := 9) rfl ?_); refine goesL_ (some 29) rfl rfl Try.func9 (by kernel_rfl) rfl #[.string a1] rfl (by (try simp only [List.map_toArray, List.map_cons, List.map_nil]); first | done | rfl | (simp only [List.length_drop, List.length_take]; rfl)) ?_; (with_reducible refine (sum_Of.calls kj3 a1 t142 _ A10.out).mono ?_); rintro e w' ⟨rfl, ⟨nd, rfl⟩⟩; refine ⟨_, rfl, ?_⟩) | (go_at_call 9; (with_reducible refine (sum_Of.calls kj3 a1 t142 _ A10.out).mono ?_); rintro e w' ⟨rfl, ⟨nd, rfl⟩⟩) | ((with_reducible refine gate_callee (f := 9) rfl ?_); refine goesL_ (some 31) rfl rfl Try.func9 (by kernel_rfl) rfl #[.string a2] rfl (by (try simp only [List.map_toArray, List.map_cons, List.map_nil]); first | done | rfl | (simp only [List.length_drop, List.length_take]; rfl)) ?_; (with_reducible refine (sum_Of.calls kj3 a2 t143 _ A11.out).mono ?_); rintro e w' ⟨rfl, ⟨nd, rfl⟩⟩; refine ⟨_, rfl, ?_⟩) | (go_at_call 9; (with_reducible refine (sum_Of.calls kj3 a2 t143 _ A11.out).mono ?_); rintro e w' ⟨rfl, ⟨nd, rfl⟩⟩) | ((with_reducible refine gate_callee (f := 13) rfl ?_); refine goesL_ (some 36) rfl rfl Try.func13 (by kernel_rfl) rfl #[.int .i64 t141, .int .i64 t142, .int .i64 (a1.size : Int)] rfl (by (try simp only [List.map_toArray, List.map_cons, List.map_nil]); first | done | rfl | (simp only [List.length_drop, List.length_take]; rfl)) ?_; (with_reducible refine (sum_Join.calls t141 t142 (a1.size : Int) t144 _ A12.out).mono ?_); rintro e w' ⟨rfl, ⟨nd, rfl⟩⟩; refine ⟨_, rfl, ?_⟩) | (go_at_call 13; (with_reducible refine (sum_Join.calls t141 t142 (a1.size : Int) t144 _ A12.out).mono ?_); rintro e w' ⟨rfl, ⟨nd, rfl⟩⟩) | ((with_reducible refine gate_callee (f := 13) rfl ?_); refine goesL_ (some 40) rfl rfl Try.func13 (by kernel_rfl) rfl #[.int .i64 t144, .int .i64 t143, .int .i64 (a2.size : Int)] rfl (by (try simp only [List.map_toArray, List.map_cons, List.map_nil]); first | done | rfl | (simp only [List.length_drop, List.length_take]; rfl)) ?_; (with_reducible refine (sum_Join.calls t144 t143 (a2.size : Int) t145 _ A13.out).mono ?_); rintro e w' ⟨rfl, ⟨nd, rfl⟩⟩; refine ⟨_, rfl, ?_⟩) | (go_at_call 13; (with_reducible refine (sum_Join.calls t144 t143 (a2.size : Int) t145 _ A13.out).mono ?_); rintro e w' ⟨rfl, ⟨nd, rfl⟩⟩) | ((with_reducible refine gate_callee (f := 13) rfl ?_); refine goesL_ (some 46) rfl rfl Try.func13 (by kernel_rfl) rfl #[.int .i64 t142, .int .i64 t143, .int .i64 (a2.size : Int)] rfl (by (try simp only [List.map_toArray, List.map_cons, List.map_nil]); first | done | rfl | (simp only [List.length_drop, List.length_take]; rfl)) ?_; (with_reducible refine (sum_Join.calls t142 t143 (a2.size : Int) t146 _ A14.out).mono ?_); rintro e w' ⟨rfl, ⟨nd, rfl⟩⟩; refine ⟨_, rfl, ?_⟩) | (go_at_call 13; (with_reducible refine (sum_Join.calls t142 t143 (a2.size : Int) t146 _ A14.out).mono ?_); rintro e w' ⟨rfl, ⟨nd, rfl⟩⟩) | ((with_reducible refine gate_callee (f := 13) rfl ?_); refine goesL_ (some 52) rfl rfl Try.func13 (by kernel_rfl) rfl #[.int .i64 t141, .int .i64 t146, .int .i64 (wrap64 ((a1.size : Int) + (a2.size : Int)))] rfl (by (try simp only [List.map_toArray, List.map_cons, List.map_nil]); first | done | rfl | (simp only [List.length_drop, List.length_take]; rfl)) ?_; (with_reducible refine (sum_Join.calls t141 t146 (wrap64 ((a1.size : Int) + (a2.size : Int))) t147 _ A15.out).mono ?_); rintro e w' ⟨rfl, ⟨nd, rfl⟩⟩; refine ⟨_, rfl, ?_⟩) | (go_at_call 13; (with_reducible refine (sum_Join.calls t141 t146 (wrap64 ((a1.size : Int) + (a2.size : Int))) t147 _ A15.out).mono ?_); rintro e w' ⟨rfl, ⟨nd, rfl⟩⟩))
          go_ret
          exact ⟨by first | rfl | (simp; done) | (simp [*]; done), by repeat (first | exact Drawn0.refl _ | apply Drawn0.step)⟩

/-- THE ONE PURE STATEMENT of armadalaw02_SumJoins: yours. -/
def armadalaw02_SumJoins.Pure : Prop := ∀ (a0 : ByteArray) (a1 : ByteArray) (a2 : ByteArray), a0.size ≤ 140737488351232 → a1.size ≤ 140737488351232 → a2.size ≤ 140737488351232 → ∃ k, armadalaw02_SumJoins.f k a0 a1 a2 = some true
theorem armadalaw02_SumJoins.walk (P : armadalaw02_SumJoins.Pure) (a0 : ByteArray) (a1 : ByteArray) (a2 : ByteArray) (w : World) (w0 : a0.size ≤ 140737488351232) (w1 : a1.size ≤ 140737488351232) (w2 : a2.size ≤ 140737488351232) :
    Calls Try.prog 7 #[.string a0, .string a1, .string a2] w fun e w' => e = .returned (.bool true) ∧ Below w.heap.size w w' := by
  obtain ⟨k, h⟩ := P a0 a1 a2 w0 w1 w2
  refine (armadalaw02_SumJoins.calls k a0 a1 a2 true w h).mono ?_
  rintro e w' ⟨rfl, hd⟩
  exact ⟨rfl, hd.below⟩

end Go.Proofs.Ytgjgdahjjegbiaa.P
