/- Printed functions, merged. -/
import Derived.Test.YtajgpmeilpjadaaZRecHeadsM0
namespace Go.Proofs.Ytajgpmeilpjadaa.P
open Go.RowKit Go.Proofs.YtajgpmeilpjadaaW.PrintWords Go.Proofs.YtajgpmeilpjadaaW.PrintLast Go.Proofs.YtajgpmeilpjadaaW.PrintMore
attribute [local go_sem] max2_int min2_int max_two min_two max_three min_three max_four min_four   -- for this text's walks alone
set_option linter.unusedVariables false
set_option linter.unusedSimpArgs false
mutual
def armadaref03_Text.j0 : Nat → Bool → Int → Int → Int → Int → Int → Option (ByteArray × Bool)
  | 0, _, _, _, _, _, _ => none
  | k + 1, x11, x190000, x190001, x190002, x190003, x190004 => if x11 = true then (some ((⟨#[]⟩ : ByteArray), false)) else (if x190001 < 0 then (armadaref03_Text.j1 k true x190000 x190001 x190002 x190003 x190004) else (if x190001 > 1073741824 then (armadaref03_Text.j1 k true x190000 x190001 x190002 x190003 x190004) else (if x190002 < 0 then (armadaref03_Text.j1 k true x190000 x190001 x190002 x190003 x190004) else (if x190002 > 65535 then (armadaref03_Text.j1 k true x190000 x190001 x190002 x190003 x190004) else (if x190003 < 0 then (armadaref03_Text.j1 k true x190000 x190001 x190002 x190003 x190004) else (if x190003 > 4096 then (armadaref03_Text.j1 k true x190000 x190001 x190002 x190003 x190004) else ((armadaref02_Is.f x190004).bind fun t190 => (armadaref03_Text.j1 k (!t190) x190000 x190001 x190002 x190003 x190004))))))))
def armadaref03_Text.j1 : Nat → Bool → Int → Int → Int → Int → Int → Option (ByteArray × Bool)
  | 0, _, _, _, _, _, _ => none
  | k + 1, x45, x190000, x190001, x190002, x190003, x190004 => if x45 = true then (some ((⟨#[]⟩ : ByteArray), false)) else ((some (([(x190000) % 256] : List Int) : List Int)).bind fun y191 => (if 1 + (strOfNums y191).size ≤ 9223372036854775807 then ((armadaref03_four.f x190001).bind fun t194 => (if ((⟨#[72]⟩ : ByteArray) ++ (strOfNums y191)).size + t194.size ≤ 9223372036854775807 then ((armadaref03_four.f x190002).bind fun t195 => (if (((⟨#[72]⟩ : ByteArray) ++ (strOfNums y191)) ++ t194).size + t195.size ≤ 9223372036854775807 then ((armadaref03_four.f x190003).bind fun t196 => (if ((((⟨#[72]⟩ : ByteArray) ++ (strOfNums y191)) ++ t194) ++ t195).size + t196.size ≤ 9223372036854775807 then ((armadaref03_four.f x190004).bind fun t197 => (if (((((⟨#[72]⟩ : ByteArray) ++ (strOfNums y191)) ++ t194) ++ t195) ++ t196).size + t197.size ≤ 9223372036854775807 then ((armadaref03_fill.f k ((((((⟨#[72]⟩ : ByteArray) ++ (strOfNums y191)) ++ t194) ++ t195) ++ t196) ++ t197)).bind fun t198 => (some (t198, true))) else (none))) else (none))) else (none))) else (none))) else (none)))
end
def armadaref03_Text.f (k : Nat) (a0_0 : Int) (a0_1 : Int) (a0_2 : Int) (a0_3 : Int) (a0_4 : Int) : Option (ByteArray × Bool) := if a0_0 = 1 then (armadaref03_Text.j0 k false a0_0 a0_1 a0_2 a0_3 a0_4) else (armadaref03_Text.j0 k (a0_0 != 2) a0_0 a0_1 a0_2 a0_3 a0_4)
def armadaref03_Text.T5 : Bool × List (List Nat × List Nat) := (true, [([], []), ([0], [0]), ([1], [1]), ([2], [2]), ([3], [3]), ([4], [4]), ([], []), ([6], [6]), ([7], [7]), ([5, 8], [5, 8]), ([], []), ([10], [10]), ([11, 8], [11]), ([9, 12], [9, 12]), ([], []), ([14], [14]), ([15, 12], [15]), ([13, 16], [13, 16]), ([], []), ([18], [18]), ([19, 16], [19]), ([17, 20], [17, 20]), ([21, 20], [21]), ([22, 22, 0, 1, 2, 3, 4, 5, 6, 7, 8, 9, 10, 11, 12, 13, 14, 15, 16, 17, 18, 19, 20, 21, 22], [22]), ([23, 0, 1, 2, 3, 4, 5, 6, 7, 8, 9, 10, 11, 12, 13, 14, 15, 16, 17, 18, 19, 20, 21, 22, 23], [])])
def armadaref03_Text.B5 : List Nat := [0, 1, 3, 7, 15, 31, 0, 64, 192, 511, 0, 1024, 3520, 8191, 0, 16384, 56768, 131071, 0, 262144, 908736, 2097151, 4194303, 8388607, 16777215]
theorem armadaref03_Text.tab5 : rtab .any (opsOf Try.f10 5) = armadaref03_Text.T5 := by kernel_rfl
theorem armadaref03_Text.bits5 : waitsOk armadaref03_Text.T5.2 armadaref03_Text.B5 = true := by kernel_rfl
set_option maxHeartbeats 8000000 in
set_option maxRecDepth 100000 in
theorem armadaref03_Text.calls (k : Nat) (a0_0 : Int) (a0_1 : Int) (a0_2 : Int) (a0_3 : Int) (a0_4 : Int) (r1 : ByteArray) (r2 : Bool) (w : World) (h : armadaref03_Text.f k a0_0 a0_1 a0_2 a0_3 a0_4 = some (r1, r2)) :
    Calls Try.prog 10 #[.agg #[.int .i64 a0_0, .int .i64 a0_1, .int .i64 a0_2, .int .i64 a0_3, .int .i64 a0_4]] w fun e w' => e = .returned (.tuple #[.string r1, .bool r2]) ∧ Below w.heap.size w w' := by
  have hu23 := Try.underlying23
  have HB := Aside0.mk (Below.refl w.heap.size w)
  have H : (if a0_0 = 1 then (armadaref03_Text.j0 k false a0_0 a0_1 a0_2 a0_3 a0_4) else (armadaref03_Text.j0 k (a0_0 != 2) a0_0 a0_1 a0_2 a0_3 a0_4)) = some (r1, r2) := h
  clear h
  have HC2 := Aside0.mk H
  clear H
  go_enter Try.func10, Try.ntmps10
  go_upto_region 1 with (first | ((with_reducible refine gate_dst (N := 1) rfl ?_); refine box_event ?hg (N := 1) ?hd (cs := #[.int .i64 a0_0, .int .i64 a0_1, .int .i64 a0_2, .int .i64 a0_3, .int .i64 a0_4]) (t := 23) ?hr ?_; (case hd => rfl); (case hg => rfl); (case hr => first | (go_simp; done) | (go_simp; rfl)); intro gb189 hg w3 hbox hb; have n0_ := Aside0.mk (below_step (by repeat (first | (with_reducible first | exact HB.out | apply below_alloc | apply pw_below_drewN | apply below_drew1) | exact HB.out)) hb); have n1_ := Aside0.mk (hbox); have n2_ := Aside0.mk ((by rw [hg]; exact (below_size (by repeat (first | (with_reducible first | exact HB.out | apply below_alloc | apply pw_below_drewN | apply below_drew1) | exact HB.out))) : w.heap.size ≤ gb189)); have n3_ := Aside0.mk ((by rw [hg]; exact (below_size (by repeat (first | (with_reducible first | exact HB.out | apply below_alloc | apply pw_below_drewN | apply below_drew1) | exact HB.out))) : w.heap.size ≤ gb189)); clear HB; have HB := n0_; have BK189 := n1_; have GW189 := n2_; have GE189 := n3_; clear n0_ n1_ n2_ n3_; clear hb hbox hg))
  (try simp only [Act.put, List.setIfInBounds_toArray, List.set_cons_zero, List.set_cons_succ])
  go_cut [11] (fun v11 wc => ∃ (kq : Nat) (x11_1 : Bool), v11 = .bool x11_1 ∧ Aside0 (armadaref03_Text.j0 kq x11_1 a0_0 a0_1 a0_2 a0_3 a0_4 = some (r1, r2)) ∧ Aside0 (kq ≤ k) ∧ Aside0 (wc.heap[gb189]? = some (.cells #[.int .i64 a0_0, .int .i64 a0_1, .int .i64 a0_2, .int .i64 a0_3, .int .i64 a0_4] 23 (0, 0))) ∧ Aside0 (Below w.heap.size w wc))
  case first =>
    have H := HC2.out
    clear HC2
    by_cases c4 : a0_0 = 1
    · rw [if_pos c4] at H
      have c4b0 : (a0_0 == 1) = true := beq_iff_eq.mpr c4
      have c4b1 : (a0_0 != 1) = false := bne_eq_false_iff_eq.mpr c4
      clear c4
      (first | rw [c4b0] | (simp only [i64_w, i32_w]; rw [c4b0]) | skip)
      have H' := Aside0.mk H
      clear H
      have hcz5_0 : w3.cell? ⟨gb189, 0, none⟩ = some (.int .i64 a0_0) := (blk_cell BK189.out 0).trans rfl
      have hcz5_1 : w3.cell? ⟨gb189, 1, none⟩ = some (.int .i64 a0_1) := (blk_cell BK189.out 1).trans rfl
      have hcz5_2 : w3.cell? ⟨gb189, 2, none⟩ = some (.int .i64 a0_2) := (blk_cell BK189.out 2).trans rfl
      have hcz5_3 : w3.cell? ⟨gb189, 3, none⟩ = some (.int .i64 a0_3) := (blk_cell BK189.out 3).trans rfl
      have hcz5_4 : w3.cell? ⟨gb189, 4, none⟩ = some (.int .i64 a0_4) := (blk_cell BK189.out 4).trans rfl
      have hfz5_0 := blk_frozen BK189.out 0
      have hfz5_1 := blk_frozen BK189.out 1
      have hfz5_2 := blk_frozen BK189.out 2
      have hfz5_3 := blk_frozen BK189.out 3
      have hfz5_4 := blk_frozen BK189.out 4
      go_wp2
      go_meet
      case rel => exact ⟨_, (false), (by first | rfl | (simp; done) | (simp [*]; done)), H', ⟨by first | omega | exact Nat.le_refl _⟩, ⟨by (with_reducible repeat (first | refine blk_drewN ?_ _ | refine blk_drew ?_ | refine blk_alloc ?_ _)); exact BK189.out⟩, ⟨by repeat (first | (with_reducible first | exact HB.out | apply below_alloc | apply pw_below_drewN | apply below_drew1 | refine below_set ?_ GE189.out) | exact HB.out)⟩⟩
    · rw [if_neg c4] at H
      have c4b0 : (a0_0 == 1) = false := beq_eq_false_iff_ne.mpr c4
      have c4b1 : (a0_0 != 1) = true := bne_iff_ne.mpr c4
      (first | rw [c4b0] | (simp only [i64_w, i32_w]; rw [c4b0]) | skip)
      have H' := Aside0.mk H
      clear H
      have hcz6_0 : w3.cell? ⟨gb189, 0, none⟩ = some (.int .i64 a0_0) := (blk_cell BK189.out 0).trans rfl
      have hcz6_1 : w3.cell? ⟨gb189, 1, none⟩ = some (.int .i64 a0_1) := (blk_cell BK189.out 1).trans rfl
      have hcz6_2 : w3.cell? ⟨gb189, 2, none⟩ = some (.int .i64 a0_2) := (blk_cell BK189.out 2).trans rfl
      have hcz6_3 : w3.cell? ⟨gb189, 3, none⟩ = some (.int .i64 a0_3) := (blk_cell BK189.out 3).trans rfl
      have hcz6_4 : w3.cell? ⟨gb189, 4, none⟩ = some (.int .i64 a0_4) := (blk_cell BK189.out 4).trans rfl
      have hfz6_0 := blk_frozen BK189.out 0
      have hfz6_1 := blk_frozen BK189.out 1
      have hfz6_2 := blk_frozen BK189.out 2
      have hfz6_3 := blk_frozen BK189.out 3
      have hfz6_4 := blk_frozen BK189.out 4
      go_wp2
      go_meet
      case rel => exact ⟨_, ((a0_0 != 2)), (by first | rfl | (simp; done) | (simp [*]; done)), H', ⟨by first | omega | exact Nat.le_refl _⟩, ⟨by (with_reducible repeat (first | refine blk_drewN ?_ _ | refine blk_drew ?_ | refine blk_alloc ?_ _)); exact BK189.out⟩, ⟨by repeat (first | (with_reducible first | exact HB.out | apply below_alloc | apply pw_below_drewN | apply below_drew1 | refine below_set ?_ GE189.out) | exact HB.out)⟩⟩
  case rest =>
    clear HC2
    try clear c1
    try clear p2
    try clear c4
    try clear c4b0
    try clear c4b1
    try clear hcz5_0
    try clear hcz5_1
    try clear hcz5_2
    try clear hcz5_3
    try clear hcz5_4
    try clear hcz6_0
    try clear hcz6_1
    try clear hcz6_2
    try clear hcz6_3
    try clear hcz6_4
    try clear hfz5_0
    try clear hfz5_1
    try clear hfz5_2
    try clear hfz5_3
    try clear hfz5_4
    try clear hfz6_0
    try clear hfz6_1
    try clear hfz6_2
    try clear hfz6_3
    try clear hfz6_4
    obtain ⟨kq, x11_1, rfl, HA, HJ1, BK189, HB⟩ := hcut
    cases kq with
    | zero => exact absurd HA.out (by simp [armadaref03_Text.j0])
    | succ kj1 =>
      have H := HA.out
      clear HA
      simp only [armadaref03_Text.j0] at H
      by_cases c7 : x11_1 = true
      · subst c7
        have H1 : (some ((⟨#[]⟩ : ByteArray), false)) = some (r1, r2) := by rw [if_pos rfl] at H; exact H
        clear H
        have H := H1
        clear H1
        simp only [Option.some.injEq, Prod.mk.injEq] at H
        obtain ⟨rfl, rfl⟩ := H
        go_wp2
        go_ret2
        exact ⟨by first | rfl | (simp [errW_none, errW_some] <;> rfl) | (simp [*, errW_none, errW_some] <;> rfl), by repeat (first | (with_reducible first | exact HB.out | apply below_alloc | apply pw_below_drewN | apply below_drew1 | refine below_set ?_ GE189.out) | exact HB.out)⟩
      · replace c7 := Bool.eq_false_iff.mpr c7
        subst c7
        have H1 : (if a0_1 < 0 then (armadaref03_Text.j1 kj1 true a0_0 a0_1 a0_2 a0_3 a0_4) else (if a0_1 > 1073741824 then (armadaref03_Text.j1 kj1 true a0_0 a0_1 a0_2 a0_3 a0_4) else (if a0_2 < 0 then (armadaref03_Text.j1 kj1 true a0_0 a0_1 a0_2 a0_3 a0_4) else (if a0_2 > 65535 then (armadaref03_Text.j1 kj1 true a0_0 a0_1 a0_2 a0_3 a0_4) else (if a0_3 < 0 then (armadaref03_Text.j1 kj1 true a0_0 a0_1 a0_2 a0_3 a0_4) else (if a0_3 > 4096 then (armadaref03_Text.j1 kj1 true a0_0 a0_1 a0_2 a0_3 a0_4) else ((armadaref02_Is.f a0_4).bind fun t190 => (armadaref03_Text.j1 kj1 (!t190) a0_0 a0_1 a0_2 a0_3 a0_4)))))))) = some (r1, r2) := by rw [if_neg (show ¬ (false = true) by decide)] at H; exact H
        clear H
        have H := H1
        clear H1
        have HC8 := Aside0.mk H
        clear H
        go_upto_region 3 with (fail)
        go_cut [45] (fun v45 wc => ∃ (kq : Nat) (x45_7 : Bool), v45 = .bool x45_7 ∧ Aside0 (armadaref03_Text.j1 kq x45_7 a0_0 a0_1 a0_2 a0_3 a0_4 = some (r1, r2)) ∧ Aside0 (kq ≤ kj1) ∧ Aside0 (wc.heap[gb189]? = some (.cells #[.int .i64 a0_0, .int .i64 a0_1, .int .i64 a0_2, .int .i64 a0_3, .int .i64 a0_4] 23 (0, 0))) ∧ Aside0 (Below w.heap.size w wc))
        case first =>
          have H := HC8.out
          clear HC8
          by_cases c9 : a0_1 < 0
          · rw [if_pos c9] at H
            have c9b0 : decide (a0_1 < 0) = true := decide_eq_true c9
            clear c9
            (first | rw [c9b0] | (simp only [i64_w, i32_w]; rw [c9b0]) | skip)
            have H' := Aside0.mk H
            clear H
            have hcz10_0 : wc.cell? ⟨gb189, 0, none⟩ = some (.int .i64 a0_0) := (blk_cell BK189.out 0).trans rfl
            have hcz10_1 : wc.cell? ⟨gb189, 1, none⟩ = some (.int .i64 a0_1) := (blk_cell BK189.out 1).trans rfl
            have hcz10_2 : wc.cell? ⟨gb189, 2, none⟩ = some (.int .i64 a0_2) := (blk_cell BK189.out 2).trans rfl
            have hcz10_3 : wc.cell? ⟨gb189, 3, none⟩ = some (.int .i64 a0_3) := (blk_cell BK189.out 3).trans rfl
            have hcz10_4 : wc.cell? ⟨gb189, 4, none⟩ = some (.int .i64 a0_4) := (blk_cell BK189.out 4).trans rfl
            have hfz10_0 := blk_frozen BK189.out 0
            have hfz10_1 := blk_frozen BK189.out 1
            have hfz10_2 := blk_frozen BK189.out 2
            have hfz10_3 := blk_frozen BK189.out 3
            have hfz10_4 := blk_frozen BK189.out 4
            go_wp2
            go_meet
            case rel => exact ⟨_, (true), (by first | rfl | (simp; done) | (simp [*]; done)), H', ⟨by have := HJ1.out; first | omega | exact Nat.le_refl _⟩, ⟨by (with_reducible repeat (first | refine blk_drewN ?_ _ | refine blk_drew ?_ | refine blk_alloc ?_ _)); exact BK189.out⟩, ⟨by repeat (first | (with_reducible first | exact HB.out | apply below_alloc | apply pw_below_drewN | apply below_drew1 | refine below_set ?_ GE189.out) | exact HB.out)⟩⟩
          · rw [if_neg c9] at H
            have c9b0 : decide (a0_1 < 0) = false := decide_eq_false c9
            clear c9
            (first | rw [c9b0] | (simp only [i64_w, i32_w]; rw [c9b0]) | skip)
            by_cases c11 : a0_1 > 1073741824
            · rw [if_pos c11] at H
              have c11b0 : decide (1073741824 < a0_1) = true := decide_eq_true c11
              clear c11
              have H' := Aside0.mk H
              clear H
              have hcz12_0 : wc.cell? ⟨gb189, 0, none⟩ = some (.int .i64 a0_0) := (blk_cell BK189.out 0).trans rfl
              have hcz12_1 : wc.cell? ⟨gb189, 1, none⟩ = some (.int .i64 a0_1) := (blk_cell BK189.out 1).trans rfl
              have hcz12_2 : wc.cell? ⟨gb189, 2, none⟩ = some (.int .i64 a0_2) := (blk_cell BK189.out 2).trans rfl
              have hcz12_3 : wc.cell? ⟨gb189, 3, none⟩ = some (.int .i64 a0_3) := (blk_cell BK189.out 3).trans rfl
              have hcz12_4 : wc.cell? ⟨gb189, 4, none⟩ = some (.int .i64 a0_4) := (blk_cell BK189.out 4).trans rfl
              have hfz12_0 := blk_frozen BK189.out 0
              have hfz12_1 := blk_frozen BK189.out 1
              have hfz12_2 := blk_frozen BK189.out 2
              have hfz12_3 := blk_frozen BK189.out 3
              have hfz12_4 := blk_frozen BK189.out 4
              go_wp2
              go_meet
              case rel => exact ⟨_, (true), (by first | rfl | (simp; done) | (simp [*]; done)), H', ⟨by have := HJ1.out; first | omega | exact Nat.le_refl _⟩, ⟨by (with_reducible repeat (first | refine blk_drewN ?_ _ | refine blk_drew ?_ | refine blk_alloc ?_ _)); exact BK189.out⟩, ⟨by repeat (first | (with_reducible first | exact HB.out | apply below_alloc | apply pw_below_drewN | apply below_drew1 | refine below_set ?_ GE189.out) | exact HB.out)⟩⟩
            · rw [if_neg c11] at H
              have c11b0 : decide (1073741824 < a0_1) = false := decide_eq_false c11
              clear c11
              by_cases c13 : a0_2 < 0
              · rw [if_pos c13] at H
                have c13b0 : decide (a0_2 < 0) = true := decide_eq_true c13
                clear c13
                have H' := Aside0.mk H
                clear H
                have hcz14_0 : wc.cell? ⟨gb189, 0, none⟩ = some (.int .i64 a0_0) := (blk_cell BK189.out 0).trans rfl
                have hcz14_1 : wc.cell? ⟨gb189, 1, none⟩ = some (.int .i64 a0_1) := (blk_cell BK189.out 1).trans rfl
                have hcz14_2 : wc.cell? ⟨gb189, 2, none⟩ = some (.int .i64 a0_2) := (blk_cell BK189.out 2).trans rfl
                have hcz14_3 : wc.cell? ⟨gb189, 3, none⟩ = some (.int .i64 a0_3) := (blk_cell BK189.out 3).trans rfl
                have hcz14_4 : wc.cell? ⟨gb189, 4, none⟩ = some (.int .i64 a0_4) := (blk_cell BK189.out 4).trans rfl
                have hfz14_0 := blk_frozen BK189.out 0
                have hfz14_1 := blk_frozen BK189.out 1
                have hfz14_2 := blk_frozen BK189.out 2
                have hfz14_3 := blk_frozen BK189.out 3
                have hfz14_4 := blk_frozen BK189.out 4
                go_wp2
                go_meet
                case rel => exact ⟨_, (true), (by first | rfl | (simp; done) | (simp [*]; done)), H', ⟨by have := HJ1.out; first | omega | exact Nat.le_refl _⟩, ⟨by (with_reducible repeat (first | refine blk_drewN ?_ _ | refine blk_drew ?_ | refine blk_alloc ?_ _)); exact BK189.out⟩, ⟨by repeat (first | (with_reducible first | exact HB.out | apply below_alloc | apply pw_below_drewN | apply below_drew1 | refine below_set ?_ GE189.out) | exact HB.out)⟩⟩
              · rw [if_neg c13] at H
                have c13b0 : decide (a0_2 < 0) = false := decide_eq_false c13
                clear c13
                by_cases c15 : a0_2 > 65535
                · rw [if_pos c15] at H
                  have c15b0 : decide (65535 < a0_2) = true := decide_eq_true c15
                  clear c15
                  have H' := Aside0.mk H
                  clear H
                  have hcz16_0 : wc.cell? ⟨gb189, 0, none⟩ = some (.int .i64 a0_0) := (blk_cell BK189.out 0).trans rfl
                  have hcz16_1 : wc.cell? ⟨gb189, 1, none⟩ = some (.int .i64 a0_1) := (blk_cell BK189.out 1).trans rfl
                  have hcz16_2 : wc.cell? ⟨gb189, 2, none⟩ = some (.int .i64 a0_2) := (blk_cell BK189.out 2).trans rfl
                  have hcz16_3 : wc.cell? ⟨gb189, 3, none⟩ = some (.int .i64 a0_3) := (blk_cell BK189.out 3).trans rfl
                  have hcz16_4 : wc.cell? ⟨gb189, 4, none⟩ = some (.int .i64 a0_4) := (blk_cell BK189.out 4).trans rfl
                  have hfz16_0 := blk_frozen BK189.out 0
                  have hfz16_1 := blk_frozen BK189.out 1
                  have hfz16_2 := blk_frozen BK189.out 2
                  have hfz16_3 := blk_frozen BK189.out 3
                  have hfz16_4 := blk_frozen BK189.out 4
                  go_wp2
                  go_meet
                  case rel => exact ⟨_, (true), (by first | rfl | (simp; done) | (simp [*]; done)), H', ⟨by have := HJ1.out; first | omega | exact Nat.le_refl _⟩, ⟨by (with_reducible repeat (first | refine blk_drewN ?_ _ | refine blk_drew ?_ | refine blk_alloc ?_ _)); exact BK189.out⟩, ⟨by repeat (first | (with_reducible first | exact HB.out | apply below_alloc | apply pw_below_drewN | apply below_drew1 | refine below_set ?_ GE189.out) | exact HB.out)⟩⟩
                · rw [if_neg c15] at H
                  have c15b0 : decide (65535 < a0_2) = false := decide_eq_false c15
                  clear c15
                  by_cases c17 : a0_3 < 0
                  · rw [if_pos c17] at H
                    have c17b0 : decide (a0_3 < 0) = true := decide_eq_true c17
                    clear c17
                    have H' := Aside0.mk H
                    clear H
                    have hcz18_0 : wc.cell? ⟨gb189, 0, none⟩ = some (.int .i64 a0_0) := (blk_cell BK189.out 0).trans rfl
                    have hcz18_1 : wc.cell? ⟨gb189, 1, none⟩ = some (.int .i64 a0_1) := (blk_cell BK189.out 1).trans rfl
                    have hcz18_2 : wc.cell? ⟨gb189, 2, none⟩ = some (.int .i64 a0_2) := (blk_cell BK189.out 2).trans rfl
                    have hcz18_3 : wc.cell? ⟨gb189, 3, none⟩ = some (.int .i64 a0_3) := (blk_cell BK189.out 3).trans rfl
                    have hcz18_4 : wc.cell? ⟨gb189, 4, none⟩ = some (.int .i64 a0_4) := (blk_cell BK189.out 4).trans rfl
                    have hfz18_0 := blk_frozen BK189.out 0
                    have hfz18_1 := blk_frozen BK189.out 1
                    have hfz18_2 := blk_frozen BK189.out 2
                    have hfz18_3 := blk_frozen BK189.out 3
                    have hfz18_4 := blk_frozen BK189.out 4
                    go_wp2
                    go_meet
                    case rel => exact ⟨_, (true), (by first | rfl | (simp; done) | (simp [*]; done)), H', ⟨by have := HJ1.out; first | omega | exact Nat.le_refl _⟩, ⟨by (with_reducible repeat (first | refine blk_drewN ?_ _ | refine blk_drew ?_ | refine blk_alloc ?_ _)); exact BK189.out⟩, ⟨by repeat (first | (with_reducible first | exact HB.out | apply below_alloc | apply pw_below_drewN | apply below_drew1 | refine below_set ?_ GE189.out) | exact HB.out)⟩⟩
                  · rw [if_neg c17] at H
                    have c17b0 : decide (a0_3 < 0) = false := decide_eq_false c17
                    clear c17
                    by_cases c19 : a0_3 > 4096
                    · rw [if_pos c19] at H
                      have c19b0 : decide (4096 < a0_3) = true := decide_eq_true c19
                      clear c19
                      have H' := Aside0.mk H
                      clear H
                      have hcz20_0 : wc.cell? ⟨gb189, 0, none⟩ = some (.int .i64 a0_0) := (blk_cell BK189.out 0).trans rfl
                      have hcz20_1 : wc.cell? ⟨gb189, 1, none⟩ = some (.int .i64 a0_1) := (blk_cell BK189.out 1).trans rfl
                      have hcz20_2 : wc.cell? ⟨gb189, 2, none⟩ = some (.int .i64 a0_2) := (blk_cell BK189.out 2).trans rfl
                      have hcz20_3 : wc.cell? ⟨gb189, 3, none⟩ = some (.int .i64 a0_3) := (blk_cell BK189.out 3).trans rfl
                      have hcz20_4 : wc.cell? ⟨gb189, 4, none⟩ = some (.int .i64 a0_4) := (blk_cell BK189.out 4).trans rfl
                      have hfz20_0 := blk_frozen BK189.out 0
                      have hfz20_1 := blk_frozen BK189.out 1
                      have hfz20_2 := blk_frozen BK189.out 2
                      have hfz20_3 := blk_frozen BK189.out 3
                      have hfz20_4 := blk_frozen BK189.out 4
                      go_wp2
                      go_meet
                      case rel => exact ⟨_, (true), (by first | rfl | (simp; done) | (simp [*]; done)), H', ⟨by have := HJ1.out; first | omega | exact Nat.le_refl _⟩, ⟨by (with_reducible repeat (first | refine blk_drewN ?_ _ | refine blk_drew ?_ | refine blk_alloc ?_ _)); exact BK189.out⟩, ⟨by repeat (first | (with_reducible first | exact HB.out | apply below_alloc | apply pw_below_drewN | apply below_drew1 | refine below_set ?_ GE189.out) | exact HB.out)⟩⟩
                    · rw [if_neg c19] at H
                      have c19b0 : decide (4096 < a0_3) = false := decide_eq_false c19
                      clear c19
                      replace H := Option.bind_eq_some_iff.mp H
                      obtain ⟨t190, A210, H⟩ := H
                      replace H : (armadaref03_Text.j1 kj1 (!t190) a0_0 a0_1 a0_2 a0_3 a0_4) = some (r1, r2) := H
                      have A21 := Aside0.mk A210
                      clear A210
                      have H' := Aside0.mk H
                      clear H
                      have hcz22_0 : wc.cell? ⟨gb189, 0, none⟩ = some (.int .i64 a0_0) := (blk_cell BK189.out 0).trans rfl
                      have hcz22_1 : wc.cell? ⟨gb189, 1, none⟩ = some (.int .i64 a0_1) := (blk_cell BK189.out 1).trans rfl
                      have hcz22_2 : wc.cell? ⟨gb189, 2, none⟩ = some (.int .i64 a0_2) := (blk_cell BK189.out 2).trans rfl
                      have hcz22_3 : wc.cell? ⟨gb189, 3, none⟩ = some (.int .i64 a0_3) := (blk_cell BK189.out 3).trans rfl
                      have hcz22_4 : wc.cell? ⟨gb189, 4, none⟩ = some (.int .i64 a0_4) := (blk_cell BK189.out 4).trans rfl
                      have hfz22_0 := blk_frozen BK189.out 0
                      have hfz22_1 := blk_frozen BK189.out 1
                      have hfz22_2 := blk_frozen BK189.out 2
                      have hfz22_3 := blk_frozen BK189.out 3
                      have hfz22_4 := blk_frozen BK189.out 4
                      go_wp2_with (first | (go_at_call 25; (with_reducible refine (armadaref02_Is.calls a0_4 t190 _ A21.out).mono ?_); rintro e w' ⟨rfl, ⟨nd, rfl⟩⟩))
                      go_meet
                      case rel => exact ⟨_, (!t190), (by first | rfl | (simp; done) | (simp [*]; done)), H', ⟨by have := HJ1.out; first | omega | exact Nat.le_refl _⟩, ⟨by (with_reducible repeat (first | refine blk_drewN ?_ _ | refine blk_drew ?_ | refine blk_alloc ?_ _)); exact BK189.out⟩, ⟨by repeat (first | (with_reducible first | exact HB.out | apply below_alloc | apply pw_below_drewN | apply below_drew1 | refine below_set ?_ GE189.out) | exact HB.out)⟩⟩
        case rest =>
          clear HC8
          try clear c1
          try clear p2
          try clear c4
          try clear c4b0
          try clear c4b1
          try clear c7
          try clear c9
          try clear c9b0
          try clear c10
          try clear c11
          try clear c11b0
          try clear c13
          try clear c13b0
          try clear c15
          try clear c15b0
          try clear c17
          try clear c17b0
          try clear c19
          try clear c19b0
          try clear hcz10_0
          try clear hcz10_1
          try clear hcz10_2
          try clear hcz10_3
          try clear hcz10_4
          try clear hcz12_0
          try clear hcz12_1
          try clear hcz12_2
          try clear hcz12_3
          try clear hcz12_4
          try clear hcz14_0
          try clear hcz14_1
          try clear hcz14_2
          try clear hcz14_3
          try clear hcz14_4
          try clear hcz16_0
          try clear hcz16_1
          try clear hcz16_2
          try clear hcz16_3
          try clear hcz16_4
          try clear hcz18_0
          try clear hcz18_1
          try clear hcz18_2
          try clear hcz18_3
          try clear hcz18_4
          try clear hcz20_0
          try clear hcz20_1
          try clear hcz20_2
          try clear hcz20_3
          try clear hcz20_4
          try clear hcz22_0
          try clear hcz22_1
          try clear hcz22_2
          try clear hcz22_3
          try clear hcz22_4
          try clear hcz5_0
          try clear hcz5_1
          try clear hcz5_2
          try clear hcz5_3
          try clear hcz5_4
          try clear hcz6_0
          try clear hcz6_1
          try clear hcz6_2
          try clear hcz6_3
          try clear hcz6_4
          try clear hfz10_0
          try clear hfz10_1
          try clear hfz10_2
          try clear hfz10_3
          try clear hfz10_4
          try clear hfz12_0
          try clear hfz12_1
          try clear hfz12_2
          try clear hfz12_3
          try clear hfz12_4
          try clear hfz14_0
          try clear hfz14_1
          try clear hfz14_2
          try clear hfz14_3
          try clear hfz14_4
          try clear hfz16_0
          try clear hfz16_1
          try clear hfz16_2
          try clear hfz16_3
          try clear hfz16_4
          try clear hfz18_0
          try clear hfz18_1
          try clear hfz18_2
          try clear hfz18_3
          try clear hfz18_4
          try clear hfz20_0
          try clear hfz20_1
          try clear hfz20_2
          try clear hfz20_3
          try clear hfz20_4
          try clear hfz22_0
          try clear hfz22_1
          try clear hfz22_2
          try clear hfz22_3
          try clear hfz22_4
          try clear hfz5_0
          try clear hfz5_1
          try clear hfz5_2
          try clear hfz5_3
          try clear hfz5_4
          try clear hfz6_0
          try clear hfz6_1
          try clear hfz6_2
          try clear hfz6_3
          try clear hfz6_4
          try clear p2
          obtain ⟨kq, x45_7, rfl, HA, HJ7, BK189, HB⟩ := hcut
          cases kq with
          | zero => exact absurd HA.out (by simp [armadaref03_Text.j1])
          | succ kj7 =>
            have H := HA.out
            clear HA
            simp only [armadaref03_Text.j1] at H
            by_cases c23 : x45_7 = true
            · subst c23
              have H1 : (some ((⟨#[]⟩ : ByteArray), false)) = some (r1, r2) := by rw [if_pos rfl] at H; exact H
              clear H
              have H := H1
              clear H1
              simp only [Option.some.injEq, Prod.mk.injEq] at H
              obtain ⟨rfl, rfl⟩ := H
              go_wp2
              go_ret2
              exact ⟨by first | rfl | (simp [errW_none, errW_some] <;> rfl) | (simp [*, errW_none, errW_some] <;> rfl), by repeat (first | (with_reducible first | exact HB.out | apply below_alloc | apply pw_below_drewN | apply below_drew1 | refine below_set ?_ GE189.out) | exact HB.out)⟩
            · replace c23 := Bool.eq_false_iff.mpr c23
              subst c23
              have H1 : ((some (([(a0_0) % 256] : List Int) : List Int)).bind fun y191 => (if 1 + (strOfNums y191).size ≤ 9223372036854775807 then ((armadaref03_four.f a0_1).bind fun t194 => (if ((⟨#[72]⟩ : ByteArray) ++ (strOfNums y191)).size + t194.size ≤ 9223372036854775807 then ((armadaref03_four.f a0_2).bind fun t195 => (if (((⟨#[72]⟩ : ByteArray) ++ (strOfNums y191)) ++ t194).size + t195.size ≤ 9223372036854775807 then ((armadaref03_four.f a0_3).bind fun t196 => (if ((((⟨#[72]⟩ : ByteArray) ++ (strOfNums y191)) ++ t194) ++ t195).size + t196.size ≤ 9223372036854775807 then ((armadaref03_four.f a0_4).bind fun t197 => (if (((((⟨#[72]⟩ : ByteArray) ++ (strOfNums y191)) ++ t194) ++ t195) ++ t196).size + t197.size ≤ 9223372036854775807 then ((armadaref03_fill.f kj7 ((((((⟨#[72]⟩ : ByteArray) ++ (strOfNums y191)) ++ t194) ++ t195) ++ t196) ++ t197)).bind fun t198 => (some (t198, true))) else (none))) else (none))) else (none))) else (none))) else (none))) = some (r1, r2) := by rw [if_neg (show ¬ (false = true) by decide)] at H; exact H
              clear H
              have H := H1
              clear H1
              obtain ⟨y191, hy191⟩ : ∃ y_ : List Int, y_ = (([(a0_0) % 256] : List Int)) := ⟨_, rfl⟩
              replace H : (if 1 + (strOfNums y191).size ≤ 9223372036854775807 then ((armadaref03_four.f a0_1).bind fun t194 => (if ((⟨#[72]⟩ : ByteArray) ++ (strOfNums y191)).size + t194.size ≤ 9223372036854775807 then ((armadaref03_four.f a0_2).bind fun t195 => (if (((⟨#[72]⟩ : ByteArray) ++ (strOfNums y191)) ++ t194).size + t195.size ≤ 9223372036854775807 then ((armadaref03_four.f a0_3).bind fun t196 => (if ((((⟨#[72]⟩ : ByteArray) ++ (strOfNums y191)) ++ t194) ++ t195).size + t196.size ≤ 9223372036854775807 then ((armadaref03_four.f a0_4).bind fun t197 => (if (((((⟨#[72]⟩ : ByteArray) ++ (strOfNums y191)) ++ t194) ++ t195) ++ t196).size + t197.size ≤ 9223372036854775807 then ((armadaref03_fill.f kj7 ((((((⟨#[72]⟩ : ByteArray) ++ (strOfNums y191)) ++ t194) ++ t195) ++ t196) ++ t197)).bind fun t198 => (some (t198, true))) else (none))) else (none))) else (none))) else (none))) else (none)) = some (r1, r2) := by first | (rw [hy191]; with_reducible exact H) | (have H2_ := (Option.bind_some _ _).symm.trans H; rw [hy191]; with_reducible exact H2_) | (have H2_ := (Option.bind_some _ _).symm.trans H; with_reducible exact H2_) | with_reducible exact H | (rw [hy191]; exact H) | exact H
              have Ny191 := Aside0.mk hy191
              clear hy191
              by_cases c24 : 1 + (strOfNums y191).size ≤ 9223372036854775807
              · rw [if_pos c24] at H
                have c24b0 := eq_true c24
                have c24b1 : decide (1 + (strOfNums y191).size ≤ 9223372036854775807) = true := decide_eq_true c24
                try have c24b2 : (9223372036854775807 < 1 + (strOfNums y191).size) = False := eq_false (Nat.not_lt.2 c24)
                replace H := Option.bind_eq_some_iff.mp H
                obtain ⟨t194, A250, H⟩ := H
                replace H : (if ((⟨#[72]⟩ : ByteArray) ++ (strOfNums y191)).size + t194.size ≤ 9223372036854775807 then ((armadaref03_four.f a0_2).bind fun t195 => (if (((⟨#[72]⟩ : ByteArray) ++ (strOfNums y191)) ++ t194).size + t195.size ≤ 9223372036854775807 then ((armadaref03_four.f a0_3).bind fun t196 => (if ((((⟨#[72]⟩ : ByteArray) ++ (strOfNums y191)) ++ t194) ++ t195).size + t196.size ≤ 9223372036854775807 then ((armadaref03_four.f a0_4).bind fun t197 => (if (((((⟨#[72]⟩ : ByteArray) ++ (strOfNums y191)) ++ t194) ++ t195) ++ t196).size + t197.size ≤ 9223372036854775807 then ((armadaref03_fill.f kj7 ((((((⟨#[72]⟩ : ByteArray) ++ (strOfNums y191)) ++ t194) ++ t195) ++ t196) ++ t197)).bind fun t198 => (some (t198, true))) else (none))) else (none))) else (none))) else (none)) = some (r1, r2) := H
                have A25 := Aside0.mk A250
                clear A250
                by_cases c26 : ((⟨#[72]⟩ : ByteArray) ++ (strOfNums y191)).size + t194.size ≤ 9223372036854775807
                · rw [if_pos c26] at H
                  have c26b0 := eq_true c26
                  have c26b1 : decide (((⟨#[72]⟩ : ByteArray) ++ (strOfNums y191)).size + t194.size ≤ 9223372036854775807) = true := decide_eq_true c26
                  try have c26b2 : (9223372036854775807 < ((⟨#[72]⟩ : ByteArray) ++ (strOfNums y191)).size + t194.size) = False := eq_false (Nat.not_lt.2 c26)
                  (try (have c26b3 := c26; simp only [show (⟨#[72]⟩ : ByteArray).size = 1 from rfl, ByteArray.size_append, ByteArray.size_extract] at c26b3; have c26b4 := eq_true c26b3; have c26b5 := decide_eq_true c26b3; have c26b6 := eq_false (Nat.not_lt.2 c26b3)))
                  replace H := Option.bind_eq_some_iff.mp H
                  obtain ⟨t195, A270, H⟩ := H
                  replace H : (if (((⟨#[72]⟩ : ByteArray) ++ (strOfNums y191)) ++ t194).size + t195.size ≤ 9223372036854775807 then ((armadaref03_four.f a0_3).bind fun t196 => (if ((((⟨#[72]⟩ : ByteArray) ++ (strOfNums y191)) ++ t194) ++ t195).size + t196.size ≤ 9223372036854775807 then ((armadaref03_four.f a0_4).bind fun t197 => (if (((((⟨#[72]⟩ : ByteArray) ++ (strOfNums y191)) ++ t194) ++ t195) ++ t196).size + t197.size ≤ 9223372036854775807 then ((armadaref03_fill.f kj7 ((((((⟨#[72]⟩ : ByteArray) ++ (strOfNums y191)) ++ t194) ++ t195) ++ t196) ++ t197)).bind fun t198 => (some (t198, true))) else (none))) else (none))) else (none)) = some (r1, r2) := H
                  have A27 := Aside0.mk A270
                  clear A270
                  by_cases c28 : (((⟨#[72]⟩ : ByteArray) ++ (strOfNums y191)) ++ t194).size + t195.size ≤ 9223372036854775807
                  · rw [if_pos c28] at H
                    have c28b0 := eq_true c28
                    have c28b1 : decide ((((⟨#[72]⟩ : ByteArray) ++ (strOfNums y191)) ++ t194).size + t195.size ≤ 9223372036854775807) = true := decide_eq_true c28
                    try have c28b2 : (9223372036854775807 < (((⟨#[72]⟩ : ByteArray) ++ (strOfNums y191)) ++ t194).size + t195.size) = False := eq_false (Nat.not_lt.2 c28)
                    (try (have c28b3 := c28; simp only [show (⟨#[72]⟩ : ByteArray).size = 1 from rfl, ByteArray.size_append, ByteArray.size_extract] at c28b3; have c28b4 := eq_true c28b3; have c28b5 := decide_eq_true c28b3; have c28b6 := eq_false (Nat.not_lt.2 c28b3)))
                    replace H := Option.bind_eq_some_iff.mp H
                    obtain ⟨t196, A290, H⟩ := H
                    replace H : (if ((((⟨#[72]⟩ : ByteArray) ++ (strOfNums y191)) ++ t194) ++ t195).size + t196.size ≤ 9223372036854775807 then ((armadaref03_four.f a0_4).bind fun t197 => (if (((((⟨#[72]⟩ : ByteArray) ++ (strOfNums y191)) ++ t194) ++ t195) ++ t196).size + t197.size ≤ 9223372036854775807 then ((armadaref03_fill.f kj7 ((((((⟨#[72]⟩ : ByteArray) ++ (strOfNums y191)) ++ t194) ++ t195) ++ t196) ++ t197)).bind fun t198 => (some (t198, true))) else (none))) else (none)) = some (r1, r2) := H
                    have A29 := Aside0.mk A290
                    clear A290
                    by_cases c30 : ((((⟨#[72]⟩ : ByteArray) ++ (strOfNums y191)) ++ t194) ++ t195).size + t196.size ≤ 9223372036854775807
                    · rw [if_pos c30] at H
                      have c30b0 := eq_true c30
                      have c30b1 : decide (((((⟨#[72]⟩ : ByteArray) ++ (strOfNums y191)) ++ t194) ++ t195).size + t196.size ≤ 9223372036854775807) = true := decide_eq_true c30
                      try have c30b2 : (9223372036854775807 < ((((⟨#[72]⟩ : ByteArray) ++ (strOfNums y191)) ++ t194) ++ t195).size + t196.size) = False := eq_false (Nat.not_lt.2 c30)
                      (try (have c30b3 := c30; simp only [show (⟨#[72]⟩ : ByteArray).size = 1 from rfl, ByteArray.size_append, ByteArray.size_extract] at c30b3; have c30b4 := eq_true c30b3; have c30b5 := decide_eq_true c30b3; have c30b6 := eq_false (Nat.not_lt.2 c30b3)))
                      replace H := Option.bind_eq_some_iff.mp H
                      obtain ⟨t197, A310, H⟩ := H
                      replace H : (if (((((⟨#[72]⟩ : ByteArray) ++ (strOfNums y191)) ++ t194) ++ t195) ++ t196).size + t197.size ≤ 9223372036854775807 then ((armadaref03_fill.f kj7 ((((((⟨#[72]⟩ : ByteArray) ++ (strOfNums y191)) ++ t194) ++ t195) ++ t196) ++ t197)).bind fun t198 => (some (t198, true))) else (none)) = some (r1, r2) := H
                      have A31 := Aside0.mk A310
                      clear A310
                      by_cases c32 : (((((⟨#[72]⟩ : ByteArray) ++ (strOfNums y191)) ++ t194) ++ t195) ++ t196).size + t197.size ≤ 9223372036854775807
                      · rw [if_pos c32] at H
                        have c32b0 := eq_true c32
                        have c32b1 : decide ((((((⟨#[72]⟩ : ByteArray) ++ (strOfNums y191)) ++ t194) ++ t195) ++ t196).size + t197.size ≤ 9223372036854775807) = true := decide_eq_true c32
                        try have c32b2 : (9223372036854775807 < (((((⟨#[72]⟩ : ByteArray) ++ (strOfNums y191)) ++ t194) ++ t195) ++ t196).size + t197.size) = False := eq_false (Nat.not_lt.2 c32)
                        (try (have c32b3 := c32; simp only [show (⟨#[72]⟩ : ByteArray).size = 1 from rfl, ByteArray.size_append, ByteArray.size_extract] at c32b3; have c32b4 := eq_true c32b3; have c32b5 := decide_eq_true c32b3; have c32b6 := eq_false (Nat.not_lt.2 c32b3)))
                        replace H := Option.bind_eq_some_iff.mp H
                        obtain ⟨t198, A330, H⟩ := H
                        replace H : (some (t198, true)) = some (r1, r2) := H
                        have A33 := Aside0.mk A330
                        clear A330
                        simp only [Option.some.injEq, Prod.mk.injEq] at H
                        obtain ⟨rfl, rfl⟩ := H
                        try go_wp2
                        have n0_ := Aside0.mk (blk_drew BK189.out)
                        have n1_ := Aside0.mk (below_drew1 HB.out)
                        clear BK189
                        clear HB
                        have BK189 := n0_
                        have HB := n1_
                        clear n0_ n1_
                        refine start_ (n := 25) (S := fun w' => w'.cell? ⟨gb189, 0, none⟩ = some (.int .i64 a0_0) ∧ w'.cell? ⟨gb189, 1, none⟩ = some (.int .i64 a0_1) ∧ w'.cell? ⟨gb189, 2, none⟩ = some (.int .i64 a0_2) ∧ w'.cell? ⟨gb189, 3, none⟩ = some (.int .i64 a0_3) ∧ w'.cell? ⟨gb189, 4, none⟩ = some (.int .i64 a0_4)) (ds := []) #[false, false, false, false, false, false, false, false, false, false, false, false, false, false, false, false, false, false, false, false, false, false, false, false, false] (by kernel_rfl) rfl rfl ⟨(blk_cell BK189.out 0).trans rfl, (blk_cell BK189.out 1).trans rfl, (blk_cell BK189.out 2).trans rfl, (blk_cell BK189.out 3).trans rfl, (blk_cell BK189.out 4).trans rfl⟩ (fun hHeld => ?_); refine with_tabW armadaref03_Text.tab5 armadaref03_Text.bits5 (fun HT_ HW_ => ?_)
                        generalize wc.drew = w34 at BK189 HB hHeld ⊢
                        refine pure_ (i := 0) (N := some 46) (v := ?_) (a' := ?_) #[true, false, false, false, false, false, false, false, false, false, false, false, false, false, false, false, false, false, false, false, false, false, false, false, false] rfl rfl (any_of HT_.out (by kernel_rfl)) (fun _ _ _ h => h) (Or.inl ⟨by rfl, ?_⟩) ?_ ?_
                        rotate_left
                        · intro w'
                          go_simp
                          with_reducible rfl
                        rotate_left
                        · simp only [Act.put, List.setIfInBounds_toArray, List.set_cons_zero, List.set_cons_succ, i64_w, i32_w]
                          rfl
                        refine pure_ (i := 6) (N := some 52) (v := ?_) (a' := ?_) #[true, false, false, false, false, false, true, false, false, false, false, false, false, false, false, false, false, false, false, false, false, false, false, false, false] rfl rfl (any_of HT_.out (by kernel_rfl)) (fun _ _ _ h => h) (Or.inl ⟨by rfl, ?_⟩) ?_ ?_
                        rotate_left
                        · intro w'
                          go_simp
                          with_reducible rfl
                        rotate_left
                        · simp only [Act.put, List.setIfInBounds_toArray, List.set_cons_zero, List.set_cons_succ, i64_w, i32_w]
                          rfl
                        refine pure_ (i := 10) (N := some 56) (v := ?_) (a' := ?_) #[true, false, false, false, false, false, true, false, false, false, true, false, false, false, false, false, false, false, false, false, false, false, false, false, false] rfl rfl (any_of HT_.out (by kernel_rfl)) (fun _ _ _ h => h) (Or.inl ⟨by rfl, ?_⟩) ?_ ?_
                        rotate_left
                        · intro w'
                          go_simp
                          with_reducible rfl
                        rotate_left
                        · simp only [Act.put, List.setIfInBounds_toArray, List.set_cons_zero, List.set_cons_succ, i64_w, i32_w]
                          rfl
                        refine pure_ (i := 14) (N := some 60) (v := ?_) (a' := ?_) #[true, false, false, false, false, false, true, false, false, false, true, false, false, false, true, false, false, false, false, false, false, false, false, false, false] rfl rfl (any_of HT_.out (by kernel_rfl)) (fun _ _ _ h => h) (Or.inl ⟨by rfl, ?_⟩) ?_ ?_
                        rotate_left
                        · intro w'
                          go_simp
                          with_reducible rfl
                        rotate_left
                        · simp only [Act.put, List.setIfInBounds_toArray, List.set_cons_zero, List.set_cons_succ, i64_w, i32_w]
                          rfl
                        refine pure_ (i := 18) (N := some 64) (v := ?_) (a' := ?_) #[true, false, false, false, false, false, true, false, false, false, true, false, false, false, true, false, false, false, true, false, false, false, false, false, false] rfl rfl (any_of HT_.out (by kernel_rfl)) (fun _ _ _ h => h) (Or.inl ⟨by rfl, ?_⟩) ?_ ?_
                        rotate_left
                        · intro w'
                          go_simp
                          with_reducible rfl
                        rotate_left
                        · simp only [Act.put, List.setIfInBounds_toArray, List.set_cons_zero, List.set_cons_succ, i64_w, i32_w]
                          rfl
                        refine take_ (i := 1) (N := some 47) (v := ?_) (a' := ?_) #[true, true, false, false, false, false, true, false, false, false, true, false, false, false, true, false, false, false, true, false, false, false, false, false, false] rfl rfl (take_ofW HT_.out HW_.out (by kernel_rfl)) (fun _ _ _ h => h) (Or.inl ⟨by rfl, ?_⟩) hHeld ?_ ?_
                        rotate_left
                        · rintro w' ⟨s0, s1, s2, s3, s4⟩
                          go_simp
                          with_reducible rfl
                        rotate_left
                        · simp only [Act.put, List.setIfInBounds_toArray, List.set_cons_zero, List.set_cons_succ, i64_w, i32_w]
                          rfl
                        refine pure_ (i := 2) (N := some 48) (v := ?_) (a' := ?_) #[true, true, true, false, false, false, true, false, false, false, true, false, false, false, true, false, false, false, true, false, false, false, false, false, false] rfl rfl (any_of HT_.out (by kernel_rfl)) (fun _ _ _ h => h) (Or.inl ⟨by rfl, ?_⟩) ?_ ?_
                        rotate_left
                        · intro w'
                          go_simp
                          with_reducible rfl
                        rotate_left
                        · simp only [Act.put, List.setIfInBounds_toArray, List.set_cons_zero, List.set_cons_succ, i64_w, i32_w]
                          rfl
                        refine take_ (i := 7) (N := some 53) (v := ?_) (a' := ?_) #[true, true, true, false, false, false, true, true, false, false, true, false, false, false, true, false, false, false, true, false, false, false, false, false, false] rfl rfl (take_ofW HT_.out HW_.out (by kernel_rfl)) (fun _ _ _ h => h) (Or.inl ⟨by rfl, ?_⟩) hHeld ?_ ?_
                        rotate_left
                        · rintro w' ⟨s0, s1, s2, s3, s4⟩
                          go_simp
                          with_reducible rfl
                        rotate_left
                        · simp only [Act.put, List.setIfInBounds_toArray, List.set_cons_zero, List.set_cons_succ, i64_w, i32_w]
                          rfl
                        refine take_ (i := 11) (N := some 57) (v := ?_) (a' := ?_) #[true, true, true, false, false, false, true, true, false, false, true, true, false, false, true, false, false, false, true, false, false, false, false, false, false] rfl rfl (take_ofW HT_.out HW_.out (by kernel_rfl)) (fun _ _ _ h => h) (Or.inl ⟨by rfl, ?_⟩) hHeld ?_ ?_
                        rotate_left
                        · rintro w' ⟨s0, s1, s2, s3, s4⟩
                          go_simp
                          with_reducible rfl
                        rotate_left
                        · simp only [Act.put, List.setIfInBounds_toArray, List.set_cons_zero, List.set_cons_succ, i64_w, i32_w]
                          rfl
                        refine take_ (i := 15) (N := some 61) (v := ?_) (a' := ?_) #[true, true, true, false, false, false, true, true, false, false, true, true, false, false, true, true, false, false, true, false, false, false, false, false, false] rfl rfl (take_ofW HT_.out HW_.out (by kernel_rfl)) (fun _ _ _ h => h) (Or.inl ⟨by rfl, ?_⟩) hHeld ?_ ?_
                        rotate_left
                        · rintro w' ⟨s0, s1, s2, s3, s4⟩
                          go_simp
                          with_reducible rfl
                        rotate_left
                        · simp only [Act.put, List.setIfInBounds_toArray, List.set_cons_zero, List.set_cons_succ, i64_w, i32_w]
                          rfl
                        refine take_ (i := 19) (N := some 65) (v := ?_) (a' := ?_) #[true, true, true, false, false, false, true, true, false, false, true, true, false, false, true, true, false, false, true, true, false, false, false, false, false] rfl rfl (take_ofW HT_.out HW_.out (by kernel_rfl)) (fun _ _ _ h => h) (Or.inl ⟨by rfl, ?_⟩) hHeld ?_ ?_
                        rotate_left
                        · rintro w' ⟨s0, s1, s2, s3, s4⟩
                          go_simp
                          with_reducible rfl
                        rotate_left
                        · simp only [Act.put, List.setIfInBounds_toArray, List.set_cons_zero, List.set_cons_succ, i64_w, i32_w]
                          rfl
                        refine join_ (σ := Value) 4 #[true, true, true, true, true, true, true, true, true, true, true, true, true, true, true, true, true, true, true, true, true, false, false, false, false] (fun s_ => [(49, s_), (50, .string (strOfNums y191)), (54, .string t194), (58, .string t195), (62, .string t196), (66, .string t197), (51, .string ((⟨#[72]⟩ : ByteArray) ++ (strOfNums y191))), (55, .string (((⟨#[72]⟩ : ByteArray) ++ (strOfNums y191)) ++ t194)), (59, .string ((((⟨#[72]⟩ : ByteArray) ++ (strOfNums y191)) ++ t194) ++ t195)), (63, .string (((((⟨#[72]⟩ : ByteArray) ++ (strOfNums y191)) ++ t194) ++ t195) ++ t196))]) (fun s_ w' => (w'.cell? ⟨gb189, 0, none⟩ = some (.int .i64 a0_0) ∧ w'.cell? ⟨gb189, 1, none⟩ = some (.int .i64 a0_1) ∧ w'.cell? ⟨gb189, 2, none⟩ = some (.int .i64 a0_2) ∧ w'.cell? ⟨gb189, 3, none⟩ = some (.int .i64 a0_3) ∧ w'.cell? ⟨gb189, 4, none⟩ = some (.int .i64 a0_4)) ∧ (Kd.R (Kd.int .u8) 5 w' w.heap.size (fun _ => True) s_ y191) ∧ (w'.heap[gb189]? = some (.cells #[.int .i64 a0_0, .int .i64 a0_1, .int .i64 a0_2, .int .i64 a0_3, .int .i64 a0_4] 23 (0, 0))) ∧ (Below w.heap.size w w')) ?_ ?_
                        rotate_left
                        · intro hJ3_4_8_12_16_20
                          refine join_ (σ := Value) 5 #[true, true, true, true, true, true, true, true, true, true, true, true, true, true, true, true, true, true, true, true, false, false, false, false, false] (fun s_ => [(49, s_), (50, .string (strOfNums y191)), (54, .string t194), (58, .string t195), (62, .string t196), (51, .string ((⟨#[72]⟩ : ByteArray) ++ (strOfNums y191))), (55, .string (((⟨#[72]⟩ : ByteArray) ++ (strOfNums y191)) ++ t194)), (59, .string ((((⟨#[72]⟩ : ByteArray) ++ (strOfNums y191)) ++ t194) ++ t195)), (63, .string (((((⟨#[72]⟩ : ByteArray) ++ (strOfNums y191)) ++ t194) ++ t195) ++ t196))]) (fun s_ w' => (w'.cell? ⟨gb189, 0, none⟩ = some (.int .i64 a0_0) ∧ w'.cell? ⟨gb189, 1, none⟩ = some (.int .i64 a0_1) ∧ w'.cell? ⟨gb189, 2, none⟩ = some (.int .i64 a0_2) ∧ w'.cell? ⟨gb189, 3, none⟩ = some (.int .i64 a0_3) ∧ w'.cell? ⟨gb189, 4, none⟩ = some (.int .i64 a0_4)) ∧ (Kd.R (Kd.int .u8) 5 w' w.heap.size (fun _ => True) s_ y191) ∧ (w'.heap[gb189]? = some (.cells #[.int .i64 a0_0, .int .i64 a0_1, .int .i64 a0_2, .int .i64 a0_3, .int .i64 a0_4] 23 (0, 0))) ∧ (Below w.heap.size w w')) ?_ ?_
                          rotate_left
                          · intro hJ3_4_8_12_16
                            refine join_ (σ := Value) 9 #[true, true, true, true, false, false, true, true, true, false, true, true, true, false, true, true, true, false, true, true, true, false, false, false, false] (fun s_ => [(49, s_), (54, .string t194), (58, .string t195), (62, .string t196), (66, .string t197)]) (fun s_ w' => (w'.cell? ⟨gb189, 0, none⟩ = some (.int .i64 a0_0) ∧ w'.cell? ⟨gb189, 1, none⟩ = some (.int .i64 a0_1) ∧ w'.cell? ⟨gb189, 2, none⟩ = some (.int .i64 a0_2) ∧ w'.cell? ⟨gb189, 3, none⟩ = some (.int .i64 a0_3) ∧ w'.cell? ⟨gb189, 4, none⟩ = some (.int .i64 a0_4)) ∧ (Kd.R (Kd.int .u8) 5 w' w.heap.size (fun _ => True) s_ y191) ∧ (w'.heap[gb189]? = some (.cells #[.int .i64 a0_0, .int .i64 a0_1, .int .i64 a0_2, .int .i64 a0_3, .int .i64 a0_4] 23 (0, 0))) ∧ (Below w.heap.size w w')) ?_ ?_
                            rotate_left
                            · intro hJ3_8_12_16_20
                              refine join_ (σ := Value) 7 #[true, true, true, true, true, true, true, true, true, true, true, true, true, true, true, true, false, false, true, true, false, false, false, false, false] (fun s_ => [(49, s_), (50, .string (strOfNums y191)), (54, .string t194), (58, .string t195), (51, .string ((⟨#[72]⟩ : ByteArray) ++ (strOfNums y191))), (55, .string (((⟨#[72]⟩ : ByteArray) ++ (strOfNums y191)) ++ t194)), (59, .string ((((⟨#[72]⟩ : ByteArray) ++ (strOfNums y191)) ++ t194) ++ t195))]) (fun s_ w' => (w'.cell? ⟨gb189, 0, none⟩ = some (.int .i64 a0_0) ∧ w'.cell? ⟨gb189, 1, none⟩ = some (.int .i64 a0_1) ∧ w'.cell? ⟨gb189, 2, none⟩ = some (.int .i64 a0_2) ∧ w'.cell? ⟨gb189, 3, none⟩ = some (.int .i64 a0_3) ∧ w'.cell? ⟨gb189, 4, none⟩ = some (.int .i64 a0_4)) ∧ (Kd.R (Kd.int .u8) 5 w' w.heap.size (fun _ => True) s_ y191) ∧ (w'.heap[gb189]? = some (.cells #[.int .i64 a0_0, .int .i64 a0_1, .int .i64 a0_2, .int .i64 a0_3, .int .i64 a0_4] 23 (0, 0))) ∧ (Below w.heap.size w w')) ?_ ?_
                              rotate_left
                              · intro hJ3_4_8_12
                                refine join_ (σ := Value) 10 #[true, true, true, true, false, false, true, true, true, false, true, true, true, false, true, true, true, false, true, true, false, false, false, false, false] (fun s_ => [(49, s_), (54, .string t194), (58, .string t195), (62, .string t196)]) (fun s_ w' => (w'.cell? ⟨gb189, 0, none⟩ = some (.int .i64 a0_0) ∧ w'.cell? ⟨gb189, 1, none⟩ = some (.int .i64 a0_1) ∧ w'.cell? ⟨gb189, 2, none⟩ = some (.int .i64 a0_2) ∧ w'.cell? ⟨gb189, 3, none⟩ = some (.int .i64 a0_3) ∧ w'.cell? ⟨gb189, 4, none⟩ = some (.int .i64 a0_4)) ∧ (Kd.R (Kd.int .u8) 5 w' w.heap.size (fun _ => True) s_ y191) ∧ (w'.heap[gb189]? = some (.cells #[.int .i64 a0_0, .int .i64 a0_1, .int .i64 a0_2, .int .i64 a0_3, .int .i64 a0_4] 23 (0, 0))) ∧ (Below w.heap.size w w')) ?_ ?_
                                rotate_left
                                · intro hJ3_8_12_16
                                  refine join_ (σ := Unit) 10 #[true, true, true, false, false, false, true, true, true, false, true, true, true, false, true, true, true, false, true, true, true, false, false, false, false] (fun s_ => [(54, .string t194), (58, .string t195), (62, .string t196), (66, .string t197)]) (fun s_ w' => (w'.cell? ⟨gb189, 0, none⟩ = some (.int .i64 a0_0) ∧ w'.cell? ⟨gb189, 1, none⟩ = some (.int .i64 a0_1) ∧ w'.cell? ⟨gb189, 2, none⟩ = some (.int .i64 a0_2) ∧ w'.cell? ⟨gb189, 3, none⟩ = some (.int .i64 a0_3) ∧ w'.cell? ⟨gb189, 4, none⟩ = some (.int .i64 a0_4)) ∧ (w'.heap[gb189]? = some (.cells #[.int .i64 a0_0, .int .i64 a0_1, .int .i64 a0_2, .int .i64 a0_3, .int .i64 a0_4] 23 (0, 0))) ∧ (Below w.heap.size w w')) ?_ ?_
                                  rotate_left
                                  · intro hJ8_12_16_20
                                    refine join_ (σ := Value) 9 #[true, true, true, true, true, true, true, true, true, true, true, true, false, false, true, true, false, false, true, true, false, false, false, false, false] (fun s_ => [(49, s_), (50, .string (strOfNums y191)), (54, .string t194), (51, .string ((⟨#[72]⟩ : ByteArray) ++ (strOfNums y191))), (55, .string (((⟨#[72]⟩ : ByteArray) ++ (strOfNums y191)) ++ t194))]) (fun s_ w' => (w'.cell? ⟨gb189, 0, none⟩ = some (.int .i64 a0_0) ∧ w'.cell? ⟨gb189, 1, none⟩ = some (.int .i64 a0_1) ∧ w'.cell? ⟨gb189, 2, none⟩ = some (.int .i64 a0_2) ∧ w'.cell? ⟨gb189, 3, none⟩ = some (.int .i64 a0_3) ∧ w'.cell? ⟨gb189, 4, none⟩ = some (.int .i64 a0_4)) ∧ (Kd.R (Kd.int .u8) 5 w' w.heap.size (fun _ => True) s_ y191) ∧ (w'.heap[gb189]? = some (.cells #[.int .i64 a0_0, .int .i64 a0_1, .int .i64 a0_2, .int .i64 a0_3, .int .i64 a0_4] 23 (0, 0))) ∧ (Below w.heap.size w w')) ?_ ?_
                                    rotate_left
                                    · intro hJ3_4_8
                                      refine join_ (σ := Value) 11 #[true, true, true, true, false, false, true, true, true, false, true, true, true, false, true, true, false, false, true, true, false, false, false, false, false] (fun s_ => [(49, s_), (54, .string t194), (58, .string t195)]) (fun s_ w' => (w'.cell? ⟨gb189, 0, none⟩ = some (.int .i64 a0_0) ∧ w'.cell? ⟨gb189, 1, none⟩ = some (.int .i64 a0_1) ∧ w'.cell? ⟨gb189, 2, none⟩ = some (.int .i64 a0_2) ∧ w'.cell? ⟨gb189, 3, none⟩ = some (.int .i64 a0_3) ∧ w'.cell? ⟨gb189, 4, none⟩ = some (.int .i64 a0_4)) ∧ (Kd.R (Kd.int .u8) 5 w' w.heap.size (fun _ => True) s_ y191) ∧ (w'.heap[gb189]? = some (.cells #[.int .i64 a0_0, .int .i64 a0_1, .int .i64 a0_2, .int .i64 a0_3, .int .i64 a0_4] 23 (0, 0))) ∧ (Below w.heap.size w w')) ?_ ?_
                                      rotate_left
                                      · intro hJ3_8_12
                                        refine join_ (σ := Unit) 11 #[true, true, true, false, false, false, true, true, true, false, true, true, true, false, true, true, true, false, true, true, false, false, false, false, false] (fun s_ => [(54, .string t194), (58, .string t195), (62, .string t196)]) (fun s_ w' => (w'.cell? ⟨gb189, 0, none⟩ = some (.int .i64 a0_0) ∧ w'.cell? ⟨gb189, 1, none⟩ = some (.int .i64 a0_1) ∧ w'.cell? ⟨gb189, 2, none⟩ = some (.int .i64 a0_2) ∧ w'.cell? ⟨gb189, 3, none⟩ = some (.int .i64 a0_3) ∧ w'.cell? ⟨gb189, 4, none⟩ = some (.int .i64 a0_4)) ∧ (w'.heap[gb189]? = some (.cells #[.int .i64 a0_0, .int .i64 a0_1, .int .i64 a0_2, .int .i64 a0_3, .int .i64 a0_4] 23 (0, 0))) ∧ (Below w.heap.size w w')) ?_ ?_
                                        rotate_left
                                        · intro hJ8_12_16
                                          refine join_ (σ := Value) 11 #[true, true, true, true, true, true, true, true, false, false, true, true, false, false, true, true, false, false, true, true, false, false, false, false, false] (fun s_ => [(49, s_), (50, .string (strOfNums y191)), (51, .string ((⟨#[72]⟩ : ByteArray) ++ (strOfNums y191)))]) (fun s_ w' => (w'.cell? ⟨gb189, 0, none⟩ = some (.int .i64 a0_0) ∧ w'.cell? ⟨gb189, 1, none⟩ = some (.int .i64 a0_1) ∧ w'.cell? ⟨gb189, 2, none⟩ = some (.int .i64 a0_2) ∧ w'.cell? ⟨gb189, 3, none⟩ = some (.int .i64 a0_3) ∧ w'.cell? ⟨gb189, 4, none⟩ = some (.int .i64 a0_4)) ∧ (Kd.R (Kd.int .u8) 5 w' w.heap.size (fun _ => True) s_ y191) ∧ (w'.heap[gb189]? = some (.cells #[.int .i64 a0_0, .int .i64 a0_1, .int .i64 a0_2, .int .i64 a0_3, .int .i64 a0_4] 23 (0, 0))) ∧ (Below w.heap.size w w')) ?_ ?_
                                          rotate_left
                                          · intro hJ3_4
                                            refine join_ (σ := Value) 12 #[true, true, true, true, false, false, true, true, true, false, true, true, false, false, true, true, false, false, true, true, false, false, false, false, false] (fun s_ => [(49, s_), (54, .string t194)]) (fun s_ w' => (w'.cell? ⟨gb189, 0, none⟩ = some (.int .i64 a0_0) ∧ w'.cell? ⟨gb189, 1, none⟩ = some (.int .i64 a0_1) ∧ w'.cell? ⟨gb189, 2, none⟩ = some (.int .i64 a0_2) ∧ w'.cell? ⟨gb189, 3, none⟩ = some (.int .i64 a0_3) ∧ w'.cell? ⟨gb189, 4, none⟩ = some (.int .i64 a0_4)) ∧ (Kd.R (Kd.int .u8) 5 w' w.heap.size (fun _ => True) s_ y191) ∧ (w'.heap[gb189]? = some (.cells #[.int .i64 a0_0, .int .i64 a0_1, .int .i64 a0_2, .int .i64 a0_3, .int .i64 a0_4] 23 (0, 0))) ∧ (Below w.heap.size w w')) ?_ ?_
                                            rotate_left
                                            · intro hJ3_8
                                              refine join_ (σ := Unit) 12 #[true, true, true, false, false, false, true, true, true, false, true, true, true, false, true, true, false, false, true, true, false, false, false, false, false] (fun s_ => [(54, .string t194), (58, .string t195)]) (fun s_ w' => (w'.cell? ⟨gb189, 0, none⟩ = some (.int .i64 a0_0) ∧ w'.cell? ⟨gb189, 1, none⟩ = some (.int .i64 a0_1) ∧ w'.cell? ⟨gb189, 2, none⟩ = some (.int .i64 a0_2) ∧ w'.cell? ⟨gb189, 3, none⟩ = some (.int .i64 a0_3) ∧ w'.cell? ⟨gb189, 4, none⟩ = some (.int .i64 a0_4)) ∧ (w'.heap[gb189]? = some (.cells #[.int .i64 a0_0, .int .i64 a0_1, .int .i64 a0_2, .int .i64 a0_3, .int .i64 a0_4] 23 (0, 0))) ∧ (Below w.heap.size w w')) ?_ ?_
                                              rotate_left
                                              · intro hJ8_12
                                                refine join_ (σ := Value) 13 #[true, true, true, true, false, false, true, true, false, false, true, true, false, false, true, true, false, false, true, true, false, false, false, false, false] (fun s_ => [(49, s_)]) (fun s_ w' => (w'.cell? ⟨gb189, 0, none⟩ = some (.int .i64 a0_0) ∧ w'.cell? ⟨gb189, 1, none⟩ = some (.int .i64 a0_1) ∧ w'.cell? ⟨gb189, 2, none⟩ = some (.int .i64 a0_2) ∧ w'.cell? ⟨gb189, 3, none⟩ = some (.int .i64 a0_3) ∧ w'.cell? ⟨gb189, 4, none⟩ = some (.int .i64 a0_4)) ∧ (Kd.R (Kd.int .u8) 5 w' w.heap.size (fun _ => True) s_ y191) ∧ (w'.heap[gb189]? = some (.cells #[.int .i64 a0_0, .int .i64 a0_1, .int .i64 a0_2, .int .i64 a0_3, .int .i64 a0_4] 23 (0, 0))) ∧ (Below w.heap.size w w')) ?_ ?_
                                                rotate_left
                                                · intro hJ3
                                                  refine join_ (σ := Unit) 13 #[true, true, true, false, false, false, true, true, true, false, true, true, false, false, true, true, false, false, true, true, false, false, false, false, false] (fun s_ => [(54, .string t194)]) (fun s_ w' => (w'.cell? ⟨gb189, 0, none⟩ = some (.int .i64 a0_0) ∧ w'.cell? ⟨gb189, 1, none⟩ = some (.int .i64 a0_1) ∧ w'.cell? ⟨gb189, 2, none⟩ = some (.int .i64 a0_2) ∧ w'.cell? ⟨gb189, 3, none⟩ = some (.int .i64 a0_3) ∧ w'.cell? ⟨gb189, 4, none⟩ = some (.int .i64 a0_4)) ∧ (w'.heap[gb189]? = some (.cells #[.int .i64 a0_0, .int .i64 a0_1, .int .i64 a0_2, .int .i64 a0_3, .int .i64 a0_4] 23 (0, 0))) ∧ (Below w.heap.size w w')) ?_ ?_
                                                  rotate_left
                                                  · intro hJ8
                                                    refine two_ (i := 3) (j := 8) (Ni := some 49) (Nj := some 54) #[true, true, true, true, false, false, true, true, false, false, true, true, false, false, true, true, false, false, true, true, false, false, false, false, false] #[true, true, true, false, false, false, true, true, true, false, true, true, false, false, true, true, false, false, true, true, false, false, false, false, false] rfl rfl rfl rfl (two_of HT_.out (by kernel_rfl)) (by decide) (by decide) (fun K hK => ?_) (fun K hK => ?_)
                                                    · skip
                                                      refine Kd.R_lit_step (Kd.int .u8) _ 5 ?hg (N := 49) ?hd (xs := ([(a0_0) % 256] : List Int)) (inner := [.int .u8 ((a0_0) % 256)]) (ok := fun _ => True) (okp := fun _ => True) ?hr ?hp (fun _ hk => hk) trivial (Below.refl _ _) (Nat.le_refl _) (by simp) ?_; (case hd => rfl); (case hg => rfl); (case hr => first | (go_simp; done) | (go_simp; rfl)); (case hp => exact (Reps.one (show Kd.M (Kd.int .u8) _ _ _ ((a0_0) % 256) [.int .u8 ((a0_0) % 256)] from rfl) (Reps.none _ _)))
                                                      intro v192 w35 ho36 hb hg_ hnew_
                                                      clear hg_ hnew_
                                                      (first | rw [← Ny191.out] at ho36 | (simp only [Int.reduceToNat] at ho36; rw [← Ny191.out] at ho36))
                                                      have n0_ := Aside0.mk (Kd.R_lower ho36 (below_size (by repeat (first | (with_reducible first | exact HB.out | apply below_alloc | apply pw_below_drewN | apply below_drew1 | refine below_set ?_ GE189.out) | exact HB.out))))
                                                      have n1_ := Aside0.mk (blk_below (g := gb189) (o := .cells #[.int .i64 a0_0, .int .i64 a0_1, .int .i64 a0_2, .int .i64 a0_3, .int .i64 a0_4] 23 (0, 0)) (by (with_reducible repeat (first | refine blk_drewN ?_ _ | refine blk_drew ?_ | refine blk_alloc ?_ _)); exact BK189.out) hb)
                                                      have n2_ := Aside0.mk (below_step (by repeat (first | (with_reducible first | exact HB.out | apply below_alloc | apply pw_below_drewN | apply below_drew1 | refine below_set ?_ GE189.out) | exact HB.out)) hb)
                                                      clear BK189
                                                      clear HB
                                                      have HO193 := n0_
                                                      have BK189 := n1_
                                                      have HB := n2_
                                                      clear n0_ n1_ n2_
                                                      clear hb ho36
                                                      refine hK.out _ _ ⟨(blk_cell BK189.out 0).trans rfl, (blk_cell BK189.out 1).trans rfl, (blk_cell BK189.out 2).trans rfl, (blk_cell BK189.out 3).trans rfl, (blk_cell BK189.out 4).trans rfl⟩ (fun hHeld => ?_)
                                                      clear hK K
                                                      refine norm_ (a' := ?_) ?_ ?_
                                                      rotate_left
                                                      · show Act.put _ (some 49) _ = _
                                                        simp only [Act.put, List.setIfInBounds_toArray, List.set_cons_zero, List.set_cons_succ, i64_w, i32_w]
                                                        rfl
                                                      exact norm_ (by first | (simp only [putAll, Act.put, List.setIfInBounds_toArray, List.set_cons_zero, List.set_cons_succ]; done) | (simp only [putAll, Act.put, List.setIfInBounds_toArray, List.set_cons_zero, List.set_cons_succ]; rfl)) (hJ3 (v192) _ ⟨hHeld, (by (with_reducible repeat (first | apply Kd.R_alloc | apply Kd.R_drewN | apply Kd.R_drew)); exact HO193.out), (by (with_reducible repeat (first | refine blk_drewN ?_ _ | refine blk_drew ?_ | refine blk_alloc ?_ _)); exact BK189.out), (by repeat (first | (with_reducible first | exact HB.out | apply below_alloc | apply pw_below_drewN | apply below_drew1 | refine below_set ?_ GE189.out) | exact HB.out))⟩)
                                                    · skip
                                                      refine goes_ Try.func27 (by kernel_rfl) rfl #[.int .i64 a0_1] (by rfl) rfl rfl (by (try simp only [List.map_toArray, List.map_cons, List.map_nil]); first | done | rfl | (simp only [List.length_drop, List.length_take]; rfl)) ?_
                                                      with_reducible refine (armadaref03_four.calls a0_1 t194 _ A25.out).mono ?_
                                                      rintro e w35 ⟨rfl, hb⟩
                                                      refine ⟨_, rfl, ?_⟩
                                                      have n0_ := Aside0.mk (blk_below (g := gb189) (o := .cells #[.int .i64 a0_0, .int .i64 a0_1, .int .i64 a0_2, .int .i64 a0_3, .int .i64 a0_4] 23 (0, 0)) (by (with_reducible repeat (first | refine blk_drewN ?_ _ | refine blk_drew ?_ | refine blk_alloc ?_ _)); exact BK189.out) hb)
                                                      have n1_ := Aside0.mk (below_step (by repeat (first | (with_reducible first | exact HB.out | apply below_alloc | apply pw_below_drewN | apply below_drew1 | refine below_set ?_ GE189.out) | exact HB.out)) hb)
                                                      clear BK189
                                                      clear HB
                                                      have BK189 := n0_
                                                      have HB := n1_
                                                      clear n0_ n1_
                                                      (try clear hb)
                                                      (try clear hb2)
                                                      (try clear hk)
                                                      (try clear hi)
                                                      refine hK.out _ _ ⟨(blk_cell BK189.out 0).trans rfl, (blk_cell BK189.out 1).trans rfl, (blk_cell BK189.out 2).trans rfl, (blk_cell BK189.out 3).trans rfl, (blk_cell BK189.out 4).trans rfl⟩ (fun hHeld => ?_)
                                                      clear hK K
                                                      refine norm_ (a' := ?_) ?_ ?_
                                                      rotate_left
                                                      · show Act.put _ (some 54) _ = _
                                                        simp only [Act.put, List.setIfInBounds_toArray, List.set_cons_zero, List.set_cons_succ, i64_w, i32_w]
                                                        rfl
                                                      exact norm_ (by first | (simp only [putAll, Act.put, List.setIfInBounds_toArray, List.set_cons_zero, List.set_cons_succ]; done) | (simp only [putAll, Act.put, List.setIfInBounds_toArray, List.set_cons_zero, List.set_cons_succ]; rfl)) (hJ8 () _ ⟨hHeld, (by (with_reducible repeat (first | refine blk_drewN ?_ _ | refine blk_drew ?_ | refine blk_alloc ?_ _)); exact BK189.out), (by repeat (first | (with_reducible first | exact HB.out | apply below_alloc | apply pw_below_drewN | apply below_drew1 | refine below_set ?_ GE189.out) | exact HB.out))⟩)
                                                  · skip
                                                    rintro _ w36 ⟨hS_, h0_, h1_⟩
                                                    have n0_ : Aside0 (w36.heap[gb189]? = some (.cells #[.int .i64 a0_0, .int .i64 a0_1, .int .i64 a0_2, .int .i64 a0_3, .int .i64 a0_4] 23 (0, 0))) := ⟨h0_⟩
                                                    have n1_ : Aside0 (Below w.heap.size w w36) := ⟨h1_⟩
                                                    clear BK189
                                                    clear HB
                                                    clear h0_ h1_
                                                    have BK189 := n0_
                                                    have HB := n1_
                                                    clear n0_ n1_
                                                    have hHeld : w36.cell? ⟨gb189, 0, none⟩ = some (.int .i64 a0_0) ∧ w36.cell? ⟨gb189, 1, none⟩ = some (.int .i64 a0_1) ∧ w36.cell? ⟨gb189, 2, none⟩ = some (.int .i64 a0_2) ∧ w36.cell? ⟨gb189, 3, none⟩ = some (.int .i64 a0_3) ∧ w36.cell? ⟨gb189, 4, none⟩ = some (.int .i64 a0_4) := hS_
                                                    refine norm_ (a' := ?_) ?_ ?_
                                                    rotate_left
                                                    · simp only [putAll, Act.put, List.setIfInBounds_toArray, List.set_cons_zero, List.set_cons_succ]
                                                      rfl
                                                    refine two_ (i := 3) (j := 12) (Ni := some 49) (Nj := some 58) #[true, true, true, true, false, false, true, true, true, false, true, true, false, false, true, true, false, false, true, true, false, false, false, false, false] #[true, true, true, false, false, false, true, true, true, false, true, true, true, false, true, true, false, false, true, true, false, false, false, false, false] rfl rfl rfl rfl (two_of HT_.out (by kernel_rfl)) (by decide) (by decide) (fun K hK => ?_) (fun K hK => ?_)
                                                    · skip
                                                      refine Kd.R_lit_step (Kd.int .u8) _ 5 ?hg (N := 49) ?hd (xs := ([(a0_0) % 256] : List Int)) (inner := [.int .u8 ((a0_0) % 256)]) (ok := fun _ => True) (okp := fun _ => True) ?hr ?hp (fun _ hk => hk) trivial (Below.refl _ _) (Nat.le_refl _) (by simp) ?_; (case hd => rfl); (case hg => rfl); (case hr => first | (go_simp; done) | (go_simp; rfl)); (case hp => exact (Reps.one (show Kd.M (Kd.int .u8) _ _ _ ((a0_0) % 256) [.int .u8 ((a0_0) % 256)] from rfl) (Reps.none _ _)))
                                                      intro v192 w37 ho38 hb hg_ hnew_
                                                      clear hg_ hnew_
                                                      (first | rw [← Ny191.out] at ho38 | (simp only [Int.reduceToNat] at ho38; rw [← Ny191.out] at ho38))
                                                      have n0_ := Aside0.mk (Kd.R_lower ho38 (below_size (by repeat (first | (with_reducible first | exact HB.out | apply below_alloc | apply pw_below_drewN | apply below_drew1 | refine below_set ?_ GE189.out) | exact HB.out))))
                                                      have n1_ := Aside0.mk (blk_below (g := gb189) (o := .cells #[.int .i64 a0_0, .int .i64 a0_1, .int .i64 a0_2, .int .i64 a0_3, .int .i64 a0_4] 23 (0, 0)) (by (with_reducible repeat (first | refine blk_drewN ?_ _ | refine blk_drew ?_ | refine blk_alloc ?_ _)); exact BK189.out) hb)
                                                      have n2_ := Aside0.mk (below_step (by repeat (first | (with_reducible first | exact HB.out | apply below_alloc | apply pw_below_drewN | apply below_drew1 | refine below_set ?_ GE189.out) | exact HB.out)) hb)
                                                      clear BK189
                                                      clear HB
                                                      have HO193 := n0_
                                                      have BK189 := n1_
                                                      have HB := n2_
                                                      clear n0_ n1_ n2_
                                                      clear hb ho38
                                                      refine hK.out _ _ ⟨(blk_cell BK189.out 0).trans rfl, (blk_cell BK189.out 1).trans rfl, (blk_cell BK189.out 2).trans rfl, (blk_cell BK189.out 3).trans rfl, (blk_cell BK189.out 4).trans rfl⟩ (fun hHeld => ?_)
                                                      clear hK K
                                                      refine norm_ (a' := ?_) ?_ ?_
                                                      rotate_left
                                                      · show Act.put _ (some 49) _ = _
                                                        simp only [Act.put, List.setIfInBounds_toArray, List.set_cons_zero, List.set_cons_succ, i64_w, i32_w]
                                                        rfl
                                                      exact norm_ (by first | (simp only [putAll, Act.put, List.setIfInBounds_toArray, List.set_cons_zero, List.set_cons_succ]; done) | (simp only [putAll, Act.put, List.setIfInBounds_toArray, List.set_cons_zero, List.set_cons_succ]; rfl)) (hJ3_8 (v192) _ ⟨hHeld, (by (with_reducible repeat (first | apply Kd.R_alloc | apply Kd.R_drewN | apply Kd.R_drew)); exact HO193.out), (by (with_reducible repeat (first | refine blk_drewN ?_ _ | refine blk_drew ?_ | refine blk_alloc ?_ _)); exact BK189.out), (by repeat (first | (with_reducible first | exact HB.out | apply below_alloc | apply pw_below_drewN | apply below_drew1 | refine below_set ?_ GE189.out) | exact HB.out))⟩)
                                                    · skip
                                                      refine goes_ Try.func27 (by kernel_rfl) rfl #[.int .i64 a0_2] (by rfl) rfl rfl (by (try simp only [List.map_toArray, List.map_cons, List.map_nil]); first | done | rfl | (simp only [List.length_drop, List.length_take]; rfl)) ?_
                                                      with_reducible refine (armadaref03_four.calls a0_2 t195 _ A27.out).mono ?_
                                                      rintro e w37 ⟨rfl, hb⟩
                                                      refine ⟨_, rfl, ?_⟩
                                                      have n0_ := Aside0.mk (blk_below (g := gb189) (o := .cells #[.int .i64 a0_0, .int .i64 a0_1, .int .i64 a0_2, .int .i64 a0_3, .int .i64 a0_4] 23 (0, 0)) (by (with_reducible repeat (first | refine blk_drewN ?_ _ | refine blk_drew ?_ | refine blk_alloc ?_ _)); exact BK189.out) hb)
                                                      have n1_ := Aside0.mk (below_step (by repeat (first | (with_reducible first | exact HB.out | apply below_alloc | apply pw_below_drewN | apply below_drew1 | refine below_set ?_ GE189.out) | exact HB.out)) hb)
                                                      clear BK189
                                                      clear HB
                                                      have BK189 := n0_
                                                      have HB := n1_
                                                      clear n0_ n1_
                                                      (try clear hb)
                                                      (try clear hb2)
                                                      (try clear hk)
                                                      (try clear hi)
                                                      refine hK.out _ _ ⟨(blk_cell BK189.out 0).trans rfl, (blk_cell BK189.out 1).trans rfl, (blk_cell BK189.out 2).trans rfl, (blk_cell BK189.out 3).trans rfl, (blk_cell BK189.out 4).trans rfl⟩ (fun hHeld => ?_)
                                                      clear hK K
                                                      refine norm_ (a' := ?_) ?_ ?_
                                                      rotate_left
                                                      · show Act.put _ (some 58) _ = _
                                                        simp only [Act.put, List.setIfInBounds_toArray, List.set_cons_zero, List.set_cons_succ, i64_w, i32_w]
                                                        rfl
                                                      exact norm_ (by first | (simp only [putAll, Act.put, List.setIfInBounds_toArray, List.set_cons_zero, List.set_cons_succ]; done) | (simp only [putAll, Act.put, List.setIfInBounds_toArray, List.set_cons_zero, List.set_cons_succ]; rfl)) (hJ8_12 () _ ⟨hHeld, (by (with_reducible repeat (first | refine blk_drewN ?_ _ | refine blk_drew ?_ | refine blk_alloc ?_ _)); exact BK189.out), (by repeat (first | (with_reducible first | exact HB.out | apply below_alloc | apply pw_below_drewN | apply below_drew1 | refine below_set ?_ GE189.out) | exact HB.out))⟩)
                                                · skip
                                                  rintro v192 w37 ⟨hS_, h0_, h1_, h2_⟩
                                                  have n0_ : Aside0 (Kd.R (Kd.int .u8) 5 w37 w.heap.size (fun _ => True) v192 y191) := ⟨h0_⟩
                                                  have n1_ : Aside0 (w37.heap[gb189]? = some (.cells #[.int .i64 a0_0, .int .i64 a0_1, .int .i64 a0_2, .int .i64 a0_3, .int .i64 a0_4] 23 (0, 0))) := ⟨h1_⟩
                                                  have n2_ : Aside0 (Below w.heap.size w w37) := ⟨h2_⟩
                                                  clear BK189
                                                  clear HB
                                                  clear h0_ h1_ h2_
                                                  have HO193 := n0_
                                                  have BK189 := n1_
                                                  have HB := n2_
                                                  clear n0_ n1_ n2_
                                                  have hHeld : w37.cell? ⟨gb189, 0, none⟩ = some (.int .i64 a0_0) ∧ w37.cell? ⟨gb189, 1, none⟩ = some (.int .i64 a0_1) ∧ w37.cell? ⟨gb189, 2, none⟩ = some (.int .i64 a0_2) ∧ w37.cell? ⟨gb189, 3, none⟩ = some (.int .i64 a0_3) ∧ w37.cell? ⟨gb189, 4, none⟩ = some (.int .i64 a0_4) := hS_
                                                  refine norm_ (a' := ?_) ?_ ?_
                                                  rotate_left
                                                  · simp only [putAll, Act.put, List.setIfInBounds_toArray, List.set_cons_zero, List.set_cons_succ]
                                                    rfl
                                                  refine two_ (i := 4) (j := 8) (Ni := some 50) (Nj := some 54) #[true, true, true, true, true, false, true, true, false, false, true, true, false, false, true, true, false, false, true, true, false, false, false, false, false] #[true, true, true, true, false, false, true, true, true, false, true, true, false, false, true, true, false, false, true, true, false, false, false, false, false] rfl rfl rfl rfl (two_of HT_.out (by kernel_rfl)) (by decide) (by decide) (fun K hK => ?_) (fun K hK => ?_)
                                                  · skip
                                                    have hcv38 := own_string (P := Try.prog) Try.underlying44 Try.underlying5 Try.underlying9 (Kd.own_of_R HO193.out)
                                                    refine value_ (w1 := ?_) (v := ?_) (by rfl) rfl ?_ ?_
                                                    rotate_left 2
                                                    · go_simp
                                                      constructor
                                                      · rfl
                                                      · rfl
                                                    clear hcv38
                                                    refine hK.out _ _ ⟨(blk_cell BK189.out 0).trans rfl, (blk_cell BK189.out 1).trans rfl, (blk_cell BK189.out 2).trans rfl, (blk_cell BK189.out 3).trans rfl, (blk_cell BK189.out 4).trans rfl⟩ (fun hHeld => ?_)
                                                    clear hK K
                                                    refine norm_ (a' := ?_) ?_ ?_
                                                    rotate_left
                                                    · show Act.put _ (some 50) _ = _
                                                      simp only [Act.put, List.setIfInBounds_toArray, List.set_cons_zero, List.set_cons_succ, i64_w, i32_w]
                                                      rfl
                                                    refine pure_ (i := 5) (N := some 51) (v := ?_) (a' := ?_) #[true, true, true, true, true, true, true, true, false, false, true, true, false, false, true, true, false, false, true, true, false, false, false, false, false] rfl rfl (any_of HT_.out (by kernel_rfl)) (fun _ _ _ h => h) (Or.inl ⟨by rfl, ?_⟩) ?_ ?_
                                                    rotate_left
                                                    · intro w'
                                                      go_simp
                                                      with_reducible rfl
                                                    rotate_left
                                                    · simp only [Act.put, List.setIfInBounds_toArray, List.set_cons_zero, List.set_cons_succ, i64_w, i32_w]
                                                      rfl
                                                    exact norm_ (by first | (simp only [putAll, Act.put, List.setIfInBounds_toArray, List.set_cons_zero, List.set_cons_succ]; done) | (simp only [putAll, Act.put, List.setIfInBounds_toArray, List.set_cons_zero, List.set_cons_succ]; rfl)) (hJ3_4 (v192) _ ⟨hHeld, (by (with_reducible repeat (first | apply Kd.R_alloc | apply Kd.R_drewN | apply Kd.R_drew)); exact HO193.out), (by (with_reducible repeat (first | refine blk_drewN ?_ _ | refine blk_drew ?_ | refine blk_alloc ?_ _)); exact BK189.out), (by repeat (first | (with_reducible first | exact HB.out | apply below_alloc | apply pw_below_drewN | apply below_drew1 | refine below_set ?_ GE189.out) | exact HB.out))⟩)
                                                  · skip
                                                    refine goes_ Try.func27 (by kernel_rfl) rfl #[.int .i64 a0_1] (by rfl) rfl rfl (by (try simp only [List.map_toArray, List.map_cons, List.map_nil]); first | done | rfl | (simp only [List.length_drop, List.length_take]; rfl)) ?_
                                                    with_reducible refine (armadaref03_four.calls a0_1 t194 _ A25.out).mono ?_
                                                    rintro e w38 ⟨rfl, hb⟩
                                                    refine ⟨_, rfl, ?_⟩
                                                    have n0_ := Aside0.mk (Kd.R_below (by (with_reducible repeat (first | apply Kd.R_alloc | apply Kd.R_drewN | apply Kd.R_drew)); exact HO193.out) hb)
                                                    have n1_ := Aside0.mk (blk_below (g := gb189) (o := .cells #[.int .i64 a0_0, .int .i64 a0_1, .int .i64 a0_2, .int .i64 a0_3, .int .i64 a0_4] 23 (0, 0)) (by (with_reducible repeat (first | refine blk_drewN ?_ _ | refine blk_drew ?_ | refine blk_alloc ?_ _)); exact BK189.out) hb)
                                                    have n2_ := Aside0.mk (below_step (by repeat (first | (with_reducible first | exact HB.out | apply below_alloc | apply pw_below_drewN | apply below_drew1 | refine below_set ?_ GE189.out) | exact HB.out)) hb)
                                                    clear HO193
                                                    clear BK189
                                                    clear HB
                                                    have HO193 := n0_
                                                    have BK189 := n1_
                                                    have HB := n2_
                                                    clear n0_ n1_ n2_
                                                    (try clear hb)
                                                    (try clear hb2)
                                                    (try clear hk)
                                                    (try clear hi)
                                                    refine hK.out _ _ ⟨(blk_cell BK189.out 0).trans rfl, (blk_cell BK189.out 1).trans rfl, (blk_cell BK189.out 2).trans rfl, (blk_cell BK189.out 3).trans rfl, (blk_cell BK189.out 4).trans rfl⟩ (fun hHeld => ?_)
                                                    clear hK K
                                                    refine norm_ (a' := ?_) ?_ ?_
                                                    rotate_left
                                                    · show Act.put _ (some 54) _ = _
                                                      simp only [Act.put, List.setIfInBounds_toArray, List.set_cons_zero, List.set_cons_succ, i64_w, i32_w]
                                                      rfl
                                                    exact norm_ (by first | (simp only [putAll, Act.put, List.setIfInBounds_toArray, List.set_cons_zero, List.set_cons_succ]; done) | (simp only [putAll, Act.put, List.setIfInBounds_toArray, List.set_cons_zero, List.set_cons_succ]; rfl)) (hJ3_8 (v192) _ ⟨hHeld, (by (with_reducible repeat (first | apply Kd.R_alloc | apply Kd.R_drewN | apply Kd.R_drew)); exact HO193.out), (by (with_reducible repeat (first | refine blk_drewN ?_ _ | refine blk_drew ?_ | refine blk_alloc ?_ _)); exact BK189.out), (by repeat (first | (with_reducible first | exact HB.out | apply below_alloc | apply pw_below_drewN | apply below_drew1 | refine below_set ?_ GE189.out) | exact HB.out))⟩)
                                              · skip
                                                rintro _ w37 ⟨hS_, h0_, h1_⟩
                                                have n0_ : Aside0 (w37.heap[gb189]? = some (.cells #[.int .i64 a0_0, .int .i64 a0_1, .int .i64 a0_2, .int .i64 a0_3, .int .i64 a0_4] 23 (0, 0))) := ⟨h0_⟩
                                                have n1_ : Aside0 (Below w.heap.size w w37) := ⟨h1_⟩
                                                clear BK189
                                                clear HB
                                                clear h0_ h1_
                                                have BK189 := n0_
                                                have HB := n1_
                                                clear n0_ n1_
                                                have hHeld : w37.cell? ⟨gb189, 0, none⟩ = some (.int .i64 a0_0) ∧ w37.cell? ⟨gb189, 1, none⟩ = some (.int .i64 a0_1) ∧ w37.cell? ⟨gb189, 2, none⟩ = some (.int .i64 a0_2) ∧ w37.cell? ⟨gb189, 3, none⟩ = some (.int .i64 a0_3) ∧ w37.cell? ⟨gb189, 4, none⟩ = some (.int .i64 a0_4) := hS_
                                                refine norm_ (a' := ?_) ?_ ?_
                                                rotate_left
                                                · simp only [putAll, Act.put, List.setIfInBounds_toArray, List.set_cons_zero, List.set_cons_succ]
                                                  rfl
                                                refine two_ (i := 3) (j := 16) (Ni := some 49) (Nj := some 62) #[true, true, true, true, false, false, true, true, true, false, true, true, true, false, true, true, false, false, true, true, false, false, false, false, false] #[true, true, true, false, false, false, true, true, true, false, true, true, true, false, true, true, true, false, true, true, false, false, false, false, false] rfl rfl rfl rfl (two_of HT_.out (by kernel_rfl)) (by decide) (by decide) (fun K hK => ?_) (fun K hK => ?_)
                                                · skip
                                                  refine Kd.R_lit_step (Kd.int .u8) _ 5 ?hg (N := 49) ?hd (xs := ([(a0_0) % 256] : List Int)) (inner := [.int .u8 ((a0_0) % 256)]) (ok := fun _ => True) (okp := fun _ => True) ?hr ?hp (fun _ hk => hk) trivial (Below.refl _ _) (Nat.le_refl _) (by simp) ?_; (case hd => rfl); (case hg => rfl); (case hr => first | (go_simp; done) | (go_simp; rfl)); (case hp => exact (Reps.one (show Kd.M (Kd.int .u8) _ _ _ ((a0_0) % 256) [.int .u8 ((a0_0) % 256)] from rfl) (Reps.none _ _)))
                                                  intro v192 w38 ho39 hb hg_ hnew_
                                                  clear hg_ hnew_
                                                  (first | rw [← Ny191.out] at ho39 | (simp only [Int.reduceToNat] at ho39; rw [← Ny191.out] at ho39))
                                                  have n0_ := Aside0.mk (Kd.R_lower ho39 (below_size (by repeat (first | (with_reducible first | exact HB.out | apply below_alloc | apply pw_below_drewN | apply below_drew1 | refine below_set ?_ GE189.out) | exact HB.out))))
                                                  have n1_ := Aside0.mk (blk_below (g := gb189) (o := .cells #[.int .i64 a0_0, .int .i64 a0_1, .int .i64 a0_2, .int .i64 a0_3, .int .i64 a0_4] 23 (0, 0)) (by (with_reducible repeat (first | refine blk_drewN ?_ _ | refine blk_drew ?_ | refine blk_alloc ?_ _)); exact BK189.out) hb)
                                                  have n2_ := Aside0.mk (below_step (by repeat (first | (with_reducible first | exact HB.out | apply below_alloc | apply pw_below_drewN | apply below_drew1 | refine below_set ?_ GE189.out) | exact HB.out)) hb)
                                                  clear BK189
                                                  clear HB
                                                  have HO193 := n0_
                                                  have BK189 := n1_
                                                  have HB := n2_
                                                  clear n0_ n1_ n2_
                                                  clear hb ho39
                                                  refine hK.out _ _ ⟨(blk_cell BK189.out 0).trans rfl, (blk_cell BK189.out 1).trans rfl, (blk_cell BK189.out 2).trans rfl, (blk_cell BK189.out 3).trans rfl, (blk_cell BK189.out 4).trans rfl⟩ (fun hHeld => ?_)
                                                  clear hK K
                                                  refine norm_ (a' := ?_) ?_ ?_
                                                  rotate_left
                                                  · show Act.put _ (some 49) _ = _
                                                    simp only [Act.put, List.setIfInBounds_toArray, List.set_cons_zero, List.set_cons_succ, i64_w, i32_w]
                                                    rfl
                                                  exact norm_ (by first | (simp only [putAll, Act.put, List.setIfInBounds_toArray, List.set_cons_zero, List.set_cons_succ]; done) | (simp only [putAll, Act.put, List.setIfInBounds_toArray, List.set_cons_zero, List.set_cons_succ]; rfl)) (hJ3_8_12 (v192) _ ⟨hHeld, (by (with_reducible repeat (first | apply Kd.R_alloc | apply Kd.R_drewN | apply Kd.R_drew)); exact HO193.out), (by (with_reducible repeat (first | refine blk_drewN ?_ _ | refine blk_drew ?_ | refine blk_alloc ?_ _)); exact BK189.out), (by repeat (first | (with_reducible first | exact HB.out | apply below_alloc | apply pw_below_drewN | apply below_drew1 | refine below_set ?_ GE189.out) | exact HB.out))⟩)
                                                · skip
                                                  refine goes_ Try.func27 (by kernel_rfl) rfl #[.int .i64 a0_3] (by rfl) rfl rfl (by (try simp only [List.map_toArray, List.map_cons, List.map_nil]); first | done | rfl | (simp only [List.length_drop, List.length_take]; rfl)) ?_
                                                  with_reducible refine (armadaref03_four.calls a0_3 t196 _ A29.out).mono ?_
                                                  rintro e w38 ⟨rfl, hb⟩
                                                  refine ⟨_, rfl, ?_⟩
                                                  have n0_ := Aside0.mk (blk_below (g := gb189) (o := .cells #[.int .i64 a0_0, .int .i64 a0_1, .int .i64 a0_2, .int .i64 a0_3, .int .i64 a0_4] 23 (0, 0)) (by (with_reducible repeat (first | refine blk_drewN ?_ _ | refine blk_drew ?_ | refine blk_alloc ?_ _)); exact BK189.out) hb)
                                                  have n1_ := Aside0.mk (below_step (by repeat (first | (with_reducible first | exact HB.out | apply below_alloc | apply pw_below_drewN | apply below_drew1 | refine below_set ?_ GE189.out) | exact HB.out)) hb)
                                                  clear BK189
                                                  clear HB
                                                  have BK189 := n0_
                                                  have HB := n1_
                                                  clear n0_ n1_
                                                  (try clear hb)
                                                  (try clear hb2)
                                                  (try clear hk)
                                                  (try clear hi)
                                                  refine hK.out _ _ ⟨(blk_cell BK189.out 0).trans rfl, (blk_cell BK189.out 1).trans rfl, (blk_cell BK189.out 2).trans rfl, (blk_cell BK189.out 3).trans rfl, (blk_cell BK189.out 4).trans rfl⟩ (fun hHeld => ?_)
                                                  clear hK K
                                                  refine norm_ (a' := ?_) ?_ ?_
                                                  rotate_left
                                                  · show Act.put _ (some 62) _ = _
                                                    simp only [Act.put, List.setIfInBounds_toArray, List.set_cons_zero, List.set_cons_succ, i64_w, i32_w]
                                                    rfl
                                                  exact norm_ (by first | (simp only [putAll, Act.put, List.setIfInBounds_toArray, List.set_cons_zero, List.set_cons_succ]; done) | (simp only [putAll, Act.put, List.setIfInBounds_toArray, List.set_cons_zero, List.set_cons_succ]; rfl)) (hJ8_12_16 () _ ⟨hHeld, (by (with_reducible repeat (first | refine blk_drewN ?_ _ | refine blk_drew ?_ | refine blk_alloc ?_ _)); exact BK189.out), (by repeat (first | (with_reducible first | exact HB.out | apply below_alloc | apply pw_below_drewN | apply below_drew1 | refine below_set ?_ GE189.out) | exact HB.out))⟩)
                                            · skip
                                              rintro v192 w38 ⟨hS_, h0_, h1_, h2_⟩
                                              have n0_ : Aside0 (Kd.R (Kd.int .u8) 5 w38 w.heap.size (fun _ => True) v192 y191) := ⟨h0_⟩
                                              have n1_ : Aside0 (w38.heap[gb189]? = some (.cells #[.int .i64 a0_0, .int .i64 a0_1, .int .i64 a0_2, .int .i64 a0_3, .int .i64 a0_4] 23 (0, 0))) := ⟨h1_⟩
                                              have n2_ : Aside0 (Below w.heap.size w w38) := ⟨h2_⟩
                                              clear BK189
                                              clear HB
                                              clear h0_ h1_ h2_
                                              have HO193 := n0_
                                              have BK189 := n1_
                                              have HB := n2_
                                              clear n0_ n1_ n2_
                                              have hHeld : w38.cell? ⟨gb189, 0, none⟩ = some (.int .i64 a0_0) ∧ w38.cell? ⟨gb189, 1, none⟩ = some (.int .i64 a0_1) ∧ w38.cell? ⟨gb189, 2, none⟩ = some (.int .i64 a0_2) ∧ w38.cell? ⟨gb189, 3, none⟩ = some (.int .i64 a0_3) ∧ w38.cell? ⟨gb189, 4, none⟩ = some (.int .i64 a0_4) := hS_
                                              refine norm_ (a' := ?_) ?_ ?_
                                              rotate_left
                                              · simp only [putAll, Act.put, List.setIfInBounds_toArray, List.set_cons_zero, List.set_cons_succ]
                                                rfl
                                              refine two_ (i := 4) (j := 12) (Ni := some 50) (Nj := some 58) #[true, true, true, true, true, false, true, true, true, false, true, true, false, false, true, true, false, false, true, true, false, false, false, false, false] #[true, true, true, true, false, false, true, true, true, false, true, true, true, false, true, true, false, false, true, true, false, false, false, false, false] rfl rfl rfl rfl (two_of HT_.out (by kernel_rfl)) (by decide) (by decide) (fun K hK => ?_) (fun K hK => ?_)
                                              · skip
                                                have hcv39 := own_string (P := Try.prog) Try.underlying44 Try.underlying5 Try.underlying9 (Kd.own_of_R HO193.out)
                                                refine value_ (w1 := ?_) (v := ?_) (by rfl) rfl ?_ ?_
                                                rotate_left 2
                                                · go_simp
                                                  constructor
                                                  · rfl
                                                  · rfl
                                                clear hcv39
                                                refine hK.out _ _ ⟨(blk_cell BK189.out 0).trans rfl, (blk_cell BK189.out 1).trans rfl, (blk_cell BK189.out 2).trans rfl, (blk_cell BK189.out 3).trans rfl, (blk_cell BK189.out 4).trans rfl⟩ (fun hHeld => ?_)
                                                clear hK K
                                                refine norm_ (a' := ?_) ?_ ?_
                                                rotate_left
                                                · show Act.put _ (some 50) _ = _
                                                  simp only [Act.put, List.setIfInBounds_toArray, List.set_cons_zero, List.set_cons_succ, i64_w, i32_w]
                                                  rfl
                                                refine pure_ (i := 5) (N := some 51) (v := ?_) (a' := ?_) #[true, true, true, true, true, true, true, true, true, false, true, true, false, false, true, true, false, false, true, true, false, false, false, false, false] rfl rfl (any_of HT_.out (by kernel_rfl)) (fun _ _ _ h => h) (Or.inl ⟨by rfl, ?_⟩) ?_ ?_
                                                rotate_left
                                                · intro w'
                                                  go_simp
                                                  with_reducible rfl
                                                rotate_left
                                                · simp only [Act.put, List.setIfInBounds_toArray, List.set_cons_zero, List.set_cons_succ, i64_w, i32_w]
                                                  rfl
                                                refine pure_ (i := 9) (N := some 55) (v := ?_) (a' := ?_) #[true, true, true, true, true, true, true, true, true, true, true, true, false, false, true, true, false, false, true, true, false, false, false, false, false] rfl rfl (any_of HT_.out (by kernel_rfl)) (fun _ _ _ h => h) (Or.inl ⟨by rfl, ?_⟩) ?_ ?_
                                                rotate_left
                                                · intro w'
                                                  go_simp
                                                  with_reducible rfl
                                                rotate_left
                                                · simp only [Act.put, List.setIfInBounds_toArray, List.set_cons_zero, List.set_cons_succ, i64_w, i32_w]
                                                  rfl
                                                exact norm_ (by first | (simp only [putAll, Act.put, List.setIfInBounds_toArray, List.set_cons_zero, List.set_cons_succ]; done) | (simp only [putAll, Act.put, List.setIfInBounds_toArray, List.set_cons_zero, List.set_cons_succ]; rfl)) (hJ3_4_8 (v192) _ ⟨hHeld, (by (with_reducible repeat (first | apply Kd.R_alloc | apply Kd.R_drewN | apply Kd.R_drew)); exact HO193.out), (by (with_reducible repeat (first | refine blk_drewN ?_ _ | refine blk_drew ?_ | refine blk_alloc ?_ _)); exact BK189.out), (by repeat (first | (with_reducible first | exact HB.out | apply below_alloc | apply pw_below_drewN | apply below_drew1 | refine below_set ?_ GE189.out) | exact HB.out))⟩)
                                              · skip
                                                refine goes_ Try.func27 (by kernel_rfl) rfl #[.int .i64 a0_2] (by rfl) rfl rfl (by (try simp only [List.map_toArray, List.map_cons, List.map_nil]); first | done | rfl | (simp only [List.length_drop, List.length_take]; rfl)) ?_
                                                with_reducible refine (armadaref03_four.calls a0_2 t195 _ A27.out).mono ?_
                                                rintro e w39 ⟨rfl, hb⟩
                                                refine ⟨_, rfl, ?_⟩
                                                have n0_ := Aside0.mk (Kd.R_below (by (with_reducible repeat (first | apply Kd.R_alloc | apply Kd.R_drewN | apply Kd.R_drew)); exact HO193.out) hb)
                                                have n1_ := Aside0.mk (blk_below (g := gb189) (o := .cells #[.int .i64 a0_0, .int .i64 a0_1, .int .i64 a0_2, .int .i64 a0_3, .int .i64 a0_4] 23 (0, 0)) (by (with_reducible repeat (first | refine blk_drewN ?_ _ | refine blk_drew ?_ | refine blk_alloc ?_ _)); exact BK189.out) hb)
                                                have n2_ := Aside0.mk (below_step (by repeat (first | (with_reducible first | exact HB.out | apply below_alloc | apply pw_below_drewN | apply below_drew1 | refine below_set ?_ GE189.out) | exact HB.out)) hb)
                                                clear HO193
                                                clear BK189
                                                clear HB
                                                have HO193 := n0_
                                                have BK189 := n1_
                                                have HB := n2_
                                                clear n0_ n1_ n2_
                                                (try clear hb)
                                                (try clear hb2)
                                                (try clear hk)
                                                (try clear hi)
                                                refine hK.out _ _ ⟨(blk_cell BK189.out 0).trans rfl, (blk_cell BK189.out 1).trans rfl, (blk_cell BK189.out 2).trans rfl, (blk_cell BK189.out 3).trans rfl, (blk_cell BK189.out 4).trans rfl⟩ (fun hHeld => ?_)
                                                clear hK K
                                                refine norm_ (a' := ?_) ?_ ?_
                                                rotate_left
                                                · show Act.put _ (some 58) _ = _
                                                  simp only [Act.put, List.setIfInBounds_toArray, List.set_cons_zero, List.set_cons_succ, i64_w, i32_w]
                                                  rfl
                                                exact norm_ (by first | (simp only [putAll, Act.put, List.setIfInBounds_toArray, List.set_cons_zero, List.set_cons_succ]; done) | (simp only [putAll, Act.put, List.setIfInBounds_toArray, List.set_cons_zero, List.set_cons_succ]; rfl)) (hJ3_8_12 (v192) _ ⟨hHeld, (by (with_reducible repeat (first | apply Kd.R_alloc | apply Kd.R_drewN | apply Kd.R_drew)); exact HO193.out), (by (with_reducible repeat (first | refine blk_drewN ?_ _ | refine blk_drew ?_ | refine blk_alloc ?_ _)); exact BK189.out), (by repeat (first | (with_reducible first | exact HB.out | apply below_alloc | apply pw_below_drewN | apply below_drew1 | refine below_set ?_ GE189.out) | exact HB.out))⟩)
                                          · skip
                                            rintro v192 w38 ⟨hS_, h0_, h1_, h2_⟩
                                            have n0_ : Aside0 (Kd.R (Kd.int .u8) 5 w38 w.heap.size (fun _ => True) v192 y191) := ⟨h0_⟩
                                            have n1_ : Aside0 (w38.heap[gb189]? = some (.cells #[.int .i64 a0_0, .int .i64 a0_1, .int .i64 a0_2, .int .i64 a0_3, .int .i64 a0_4] 23 (0, 0))) := ⟨h1_⟩
                                            have n2_ : Aside0 (Below w.heap.size w w38) := ⟨h2_⟩
                                            clear BK189
                                            clear HB
                                            clear h0_ h1_ h2_
                                            have HO193 := n0_
                                            have BK189 := n1_
                                            have HB := n2_
                                            clear n0_ n1_ n2_
                                            have hHeld : w38.cell? ⟨gb189, 0, none⟩ = some (.int .i64 a0_0) ∧ w38.cell? ⟨gb189, 1, none⟩ = some (.int .i64 a0_1) ∧ w38.cell? ⟨gb189, 2, none⟩ = some (.int .i64 a0_2) ∧ w38.cell? ⟨gb189, 3, none⟩ = some (.int .i64 a0_3) ∧ w38.cell? ⟨gb189, 4, none⟩ = some (.int .i64 a0_4) := hS_
                                            refine norm_ (a' := ?_) ?_ ?_
                                            rotate_left
                                            · simp only [putAll, Act.put, List.setIfInBounds_toArray, List.set_cons_zero, List.set_cons_succ]
                                              rfl
                                            refine one_ (i := 8) (N := some 54) #[true, true, true, true, true, true, true, true, true, false, true, true, false, false, true, true, false, false, true, true, false, false, false, false, false] rfl rfl (one_of HT_.out (by kernel_rfl)) (by decide) (fun K hK => ?_)
                                            refine goes_ Try.func27 (by kernel_rfl) rfl #[.int .i64 a0_1] (by rfl) rfl rfl (by (try simp only [List.map_toArray, List.map_cons, List.map_nil]); first | done | rfl | (simp only [List.length_drop, List.length_take]; rfl)) ?_
                                            with_reducible refine (armadaref03_four.calls a0_1 t194 _ A25.out).mono ?_
                                            rintro e w39 ⟨rfl, hb⟩
                                            refine ⟨_, rfl, ?_⟩
                                            have n0_ := Aside0.mk (Kd.R_below (by (with_reducible repeat (first | apply Kd.R_alloc | apply Kd.R_drewN | apply Kd.R_drew)); exact HO193.out) hb)
                                            have n1_ := Aside0.mk (blk_below (g := gb189) (o := .cells #[.int .i64 a0_0, .int .i64 a0_1, .int .i64 a0_2, .int .i64 a0_3, .int .i64 a0_4] 23 (0, 0)) (by (with_reducible repeat (first | refine blk_drewN ?_ _ | refine blk_drew ?_ | refine blk_alloc ?_ _)); exact BK189.out) hb)
                                            have n2_ := Aside0.mk (below_step (by repeat (first | (with_reducible first | exact HB.out | apply below_alloc | apply pw_below_drewN | apply below_drew1 | refine below_set ?_ GE189.out) | exact HB.out)) hb)
                                            clear HO193
                                            clear BK189
                                            clear HB
                                            have HO193 := n0_
                                            have BK189 := n1_
                                            have HB := n2_
                                            clear n0_ n1_ n2_
                                            (try clear hb)
                                            (try clear hb2)
                                            (try clear hk)
                                            (try clear hi)
                                            refine hK.out _ _ ⟨(blk_cell BK189.out 0).trans rfl, (blk_cell BK189.out 1).trans rfl, (blk_cell BK189.out 2).trans rfl, (blk_cell BK189.out 3).trans rfl, (blk_cell BK189.out 4).trans rfl⟩ (fun hHeld => ?_)
                                            clear hK K
                                            refine norm_ (a' := ?_) ?_ ?_
                                            rotate_left
                                            · show Act.put _ (some 54) _ = _
                                              simp only [Act.put, List.setIfInBounds_toArray, List.set_cons_zero, List.set_cons_succ, i64_w, i32_w]
                                              rfl
                                            refine pure_ (i := 9) (N := some 55) (v := ?_) (a' := ?_) #[true, true, true, true, true, true, true, true, true, true, true, true, false, false, true, true, false, false, true, true, false, false, false, false, false] rfl rfl (any_of HT_.out (by kernel_rfl)) (fun _ _ _ h => h) (Or.inl ⟨by rfl, ?_⟩) ?_ ?_
                                            rotate_left
                                            · intro w'
                                              go_simp
                                              with_reducible rfl
                                            rotate_left
                                            · simp only [Act.put, List.setIfInBounds_toArray, List.set_cons_zero, List.set_cons_succ, i64_w, i32_w]
                                              rfl
                                            exact norm_ (by first | (simp only [putAll, Act.put, List.setIfInBounds_toArray, List.set_cons_zero, List.set_cons_succ]; done) | (simp only [putAll, Act.put, List.setIfInBounds_toArray, List.set_cons_zero, List.set_cons_succ]; rfl)) (hJ3_4_8 (v192) _ ⟨hHeld, (by (with_reducible repeat (first | apply Kd.R_alloc | apply Kd.R_drewN | apply Kd.R_drew)); exact HO193.out), (by (with_reducible repeat (first | refine blk_drewN ?_ _ | refine blk_drew ?_ | refine blk_alloc ?_ _)); exact BK189.out), (by repeat (first | (with_reducible first | exact HB.out | apply below_alloc | apply pw_below_drewN | apply below_drew1 | refine below_set ?_ GE189.out) | exact HB.out))⟩)
                                        · skip
                                          rintro _ w38 ⟨hS_, h0_, h1_⟩
                                          have n0_ : Aside0 (w38.heap[gb189]? = some (.cells #[.int .i64 a0_0, .int .i64 a0_1, .int .i64 a0_2, .int .i64 a0_3, .int .i64 a0_4] 23 (0, 0))) := ⟨h0_⟩
                                          have n1_ : Aside0 (Below w.heap.size w w38) := ⟨h1_⟩
                                          clear BK189
                                          clear HB
                                          clear h0_ h1_
                                          have BK189 := n0_
                                          have HB := n1_
                                          clear n0_ n1_
                                          have hHeld : w38.cell? ⟨gb189, 0, none⟩ = some (.int .i64 a0_0) ∧ w38.cell? ⟨gb189, 1, none⟩ = some (.int .i64 a0_1) ∧ w38.cell? ⟨gb189, 2, none⟩ = some (.int .i64 a0_2) ∧ w38.cell? ⟨gb189, 3, none⟩ = some (.int .i64 a0_3) ∧ w38.cell? ⟨gb189, 4, none⟩ = some (.int .i64 a0_4) := hS_
                                          refine norm_ (a' := ?_) ?_ ?_
                                          rotate_left
                                          · simp only [putAll, Act.put, List.setIfInBounds_toArray, List.set_cons_zero, List.set_cons_succ]
                                            rfl
                                          refine two_ (i := 3) (j := 20) (Ni := some 49) (Nj := some 66) #[true, true, true, true, false, false, true, true, true, false, true, true, true, false, true, true, true, false, true, true, false, false, false, false, false] #[true, true, true, false, false, false, true, true, true, false, true, true, true, false, true, true, true, false, true, true, true, false, false, false, false] rfl rfl rfl rfl (two_of HT_.out (by kernel_rfl)) (by decide) (by decide) (fun K hK => ?_) (fun K hK => ?_)
                                          · skip
                                            refine Kd.R_lit_step (Kd.int .u8) _ 5 ?hg (N := 49) ?hd (xs := ([(a0_0) % 256] : List Int)) (inner := [.int .u8 ((a0_0) % 256)]) (ok := fun _ => True) (okp := fun _ => True) ?hr ?hp (fun _ hk => hk) trivial (Below.refl _ _) (Nat.le_refl _) (by simp) ?_; (case hd => rfl); (case hg => rfl); (case hr => first | (go_simp; done) | (go_simp; rfl)); (case hp => exact (Reps.one (show Kd.M (Kd.int .u8) _ _ _ ((a0_0) % 256) [.int .u8 ((a0_0) % 256)] from rfl) (Reps.none _ _)))
                                            intro v192 w39 ho40 hb hg_ hnew_
                                            clear hg_ hnew_
                                            (first | rw [← Ny191.out] at ho40 | (simp only [Int.reduceToNat] at ho40; rw [← Ny191.out] at ho40))
                                            have n0_ := Aside0.mk (Kd.R_lower ho40 (below_size (by repeat (first | (with_reducible first | exact HB.out | apply below_alloc | apply pw_below_drewN | apply below_drew1 | refine below_set ?_ GE189.out) | exact HB.out))))
                                            have n1_ := Aside0.mk (blk_below (g := gb189) (o := .cells #[.int .i64 a0_0, .int .i64 a0_1, .int .i64 a0_2, .int .i64 a0_3, .int .i64 a0_4] 23 (0, 0)) (by (with_reducible repeat (first | refine blk_drewN ?_ _ | refine blk_drew ?_ | refine blk_alloc ?_ _)); exact BK189.out) hb)
                                            have n2_ := Aside0.mk (below_step (by repeat (first | (with_reducible first | exact HB.out | apply below_alloc | apply pw_below_drewN | apply below_drew1 | refine below_set ?_ GE189.out) | exact HB.out)) hb)
                                            clear BK189
                                            clear HB
                                            have HO193 := n0_
                                            have BK189 := n1_
                                            have HB := n2_
                                            clear n0_ n1_ n2_
                                            clear hb ho40
                                            refine hK.out _ _ ⟨(blk_cell BK189.out 0).trans rfl, (blk_cell BK189.out 1).trans rfl, (blk_cell BK189.out 2).trans rfl, (blk_cell BK189.out 3).trans rfl, (blk_cell BK189.out 4).trans rfl⟩ (fun hHeld => ?_)
                                            clear hK K
                                            refine norm_ (a' := ?_) ?_ ?_
                                            rotate_left
                                            · show Act.put _ (some 49) _ = _
                                              simp only [Act.put, List.setIfInBounds_toArray, List.set_cons_zero, List.set_cons_succ, i64_w, i32_w]
                                              rfl
                                            exact norm_ (by first | (simp only [putAll, Act.put, List.setIfInBounds_toArray, List.set_cons_zero, List.set_cons_succ]; done) | (simp only [putAll, Act.put, List.setIfInBounds_toArray, List.set_cons_zero, List.set_cons_succ]; rfl)) (hJ3_8_12_16 (v192) _ ⟨hHeld, (by (with_reducible repeat (first | apply Kd.R_alloc | apply Kd.R_drewN | apply Kd.R_drew)); exact HO193.out), (by (with_reducible repeat (first | refine blk_drewN ?_ _ | refine blk_drew ?_ | refine blk_alloc ?_ _)); exact BK189.out), (by repeat (first | (with_reducible first | exact HB.out | apply below_alloc | apply pw_below_drewN | apply below_drew1 | refine below_set ?_ GE189.out) | exact HB.out))⟩)
                                          · skip
                                            refine goes_ Try.func27 (by kernel_rfl) rfl #[.int .i64 a0_4] (by rfl) rfl rfl (by (try simp only [List.map_toArray, List.map_cons, List.map_nil]); first | done | rfl | (simp only [List.length_drop, List.length_take]; rfl)) ?_
                                            with_reducible refine (armadaref03_four.calls a0_4 t197 _ A31.out).mono ?_
                                            rintro e w39 ⟨rfl, hb⟩
                                            refine ⟨_, rfl, ?_⟩
                                            have n0_ := Aside0.mk (blk_below (g := gb189) (o := .cells #[.int .i64 a0_0, .int .i64 a0_1, .int .i64 a0_2, .int .i64 a0_3, .int .i64 a0_4] 23 (0, 0)) (by (with_reducible repeat (first | refine blk_drewN ?_ _ | refine blk_drew ?_ | refine blk_alloc ?_ _)); exact BK189.out) hb)
                                            have n1_ := Aside0.mk (below_step (by repeat (first | (with_reducible first | exact HB.out | apply below_alloc | apply pw_below_drewN | apply below_drew1 | refine below_set ?_ GE189.out) | exact HB.out)) hb)
                                            clear BK189
                                            clear HB
                                            have BK189 := n0_
                                            have HB := n1_
                                            clear n0_ n1_
                                            (try clear hb)
                                            (try clear hb2)
                                            (try clear hk)
                                            (try clear hi)
                                            refine hK.out _ _ ⟨(blk_cell BK189.out 0).trans rfl, (blk_cell BK189.out 1).trans rfl, (blk_cell BK189.out 2).trans rfl, (blk_cell BK189.out 3).trans rfl, (blk_cell BK189.out 4).trans rfl⟩ (fun hHeld => ?_)
                                            clear hK K
                                            refine norm_ (a' := ?_) ?_ ?_
                                            rotate_left
                                            · show Act.put _ (some 66) _ = _
                                              simp only [Act.put, List.setIfInBounds_toArray, List.set_cons_zero, List.set_cons_succ, i64_w, i32_w]
                                              rfl
                                            exact norm_ (by first | (simp only [putAll, Act.put, List.setIfInBounds_toArray, List.set_cons_zero, List.set_cons_succ]; done) | (simp only [putAll, Act.put, List.setIfInBounds_toArray, List.set_cons_zero, List.set_cons_succ]; rfl)) (hJ8_12_16_20 () _ ⟨hHeld, (by (with_reducible repeat (first | refine blk_drewN ?_ _ | refine blk_drew ?_ | refine blk_alloc ?_ _)); exact BK189.out), (by repeat (first | (with_reducible first | exact HB.out | apply below_alloc | apply pw_below_drewN | apply below_drew1 | refine below_set ?_ GE189.out) | exact HB.out))⟩)
                                      · skip
                                        rintro v192 w39 ⟨hS_, h0_, h1_, h2_⟩
                                        have n0_ : Aside0 (Kd.R (Kd.int .u8) 5 w39 w.heap.size (fun _ => True) v192 y191) := ⟨h0_⟩
                                        have n1_ : Aside0 (w39.heap[gb189]? = some (.cells #[.int .i64 a0_0, .int .i64 a0_1, .int .i64 a0_2, .int .i64 a0_3, .int .i64 a0_4] 23 (0, 0))) := ⟨h1_⟩
                                        have n2_ : Aside0 (Below w.heap.size w w39) := ⟨h2_⟩
                                        clear BK189
                                        clear HB
                                        clear h0_ h1_ h2_
                                        have HO193 := n0_
                                        have BK189 := n1_
                                        have HB := n2_
                                        clear n0_ n1_ n2_
                                        have hHeld : w39.cell? ⟨gb189, 0, none⟩ = some (.int .i64 a0_0) ∧ w39.cell? ⟨gb189, 1, none⟩ = some (.int .i64 a0_1) ∧ w39.cell? ⟨gb189, 2, none⟩ = some (.int .i64 a0_2) ∧ w39.cell? ⟨gb189, 3, none⟩ = some (.int .i64 a0_3) ∧ w39.cell? ⟨gb189, 4, none⟩ = some (.int .i64 a0_4) := hS_
                                        refine norm_ (a' := ?_) ?_ ?_
                                        rotate_left
                                        · simp only [putAll, Act.put, List.setIfInBounds_toArray, List.set_cons_zero, List.set_cons_succ]
                                          rfl
                                        refine two_ (i := 4) (j := 16) (Ni := some 50) (Nj := some 62) #[true, true, true, true, true, false, true, true, true, false, true, true, true, false, true, true, false, false, true, true, false, false, false, false, false] #[true, true, true, true, false, false, true, true, true, false, true, true, true, false, true, true, true, false, true, true, false, false, false, false, false] rfl rfl rfl rfl (two_of HT_.out (by kernel_rfl)) (by decide) (by decide) (fun K hK => ?_) (fun K hK => ?_)
                                        · skip
                                          have hcv40 := own_string (P := Try.prog) Try.underlying44 Try.underlying5 Try.underlying9 (Kd.own_of_R HO193.out)
                                          refine value_ (w1 := ?_) (v := ?_) (by rfl) rfl ?_ ?_
                                          rotate_left 2
                                          · go_simp
                                            constructor
                                            · rfl
                                            · rfl
                                          clear hcv40
                                          refine hK.out _ _ ⟨(blk_cell BK189.out 0).trans rfl, (blk_cell BK189.out 1).trans rfl, (blk_cell BK189.out 2).trans rfl, (blk_cell BK189.out 3).trans rfl, (blk_cell BK189.out 4).trans rfl⟩ (fun hHeld => ?_)
                                          clear hK K
                                          refine norm_ (a' := ?_) ?_ ?_
                                          rotate_left
                                          · show Act.put _ (some 50) _ = _
                                            simp only [Act.put, List.setIfInBounds_toArray, List.set_cons_zero, List.set_cons_succ, i64_w, i32_w]
                                            rfl
                                          refine pure_ (i := 5) (N := some 51) (v := ?_) (a' := ?_) #[true, true, true, true, true, true, true, true, true, false, true, true, true, false, true, true, false, false, true, true, false, false, false, false, false] rfl rfl (any_of HT_.out (by kernel_rfl)) (fun _ _ _ h => h) (Or.inl ⟨by rfl, ?_⟩) ?_ ?_
                                          rotate_left
                                          · intro w'
                                            go_simp
                                            with_reducible rfl
                                          rotate_left
                                          · simp only [Act.put, List.setIfInBounds_toArray, List.set_cons_zero, List.set_cons_succ, i64_w, i32_w]
                                            rfl
                                          refine pure_ (i := 9) (N := some 55) (v := ?_) (a' := ?_) #[true, true, true, true, true, true, true, true, true, true, true, true, true, false, true, true, false, false, true, true, false, false, false, false, false] rfl rfl (any_of HT_.out (by kernel_rfl)) (fun _ _ _ h => h) (Or.inl ⟨by rfl, ?_⟩) ?_ ?_
                                          rotate_left
                                          · intro w'
                                            go_simp
                                            with_reducible rfl
                                          rotate_left
                                          · simp only [Act.put, List.setIfInBounds_toArray, List.set_cons_zero, List.set_cons_succ, i64_w, i32_w]
                                            rfl
                                          refine pure_ (i := 13) (N := some 59) (v := ?_) (a' := ?_) #[true, true, true, true, true, true, true, true, true, true, true, true, true, true, true, true, false, false, true, true, false, false, false, false, false] rfl rfl (any_of HT_.out (by kernel_rfl)) (fun _ _ _ h => h) (Or.inl ⟨by rfl, ?_⟩) ?_ ?_
                                          rotate_left
                                          · intro w'
                                            go_simp
                                            with_reducible rfl
                                          rotate_left
                                          · simp only [Act.put, List.setIfInBounds_toArray, List.set_cons_zero, List.set_cons_succ, i64_w, i32_w]
                                            rfl
                                          exact norm_ (by first | (simp only [putAll, Act.put, List.setIfInBounds_toArray, List.set_cons_zero, List.set_cons_succ]; done) | (simp only [putAll, Act.put, List.setIfInBounds_toArray, List.set_cons_zero, List.set_cons_succ]; rfl)) (hJ3_4_8_12 (v192) _ ⟨hHeld, (by (with_reducible repeat (first | apply Kd.R_alloc | apply Kd.R_drewN | apply Kd.R_drew)); exact HO193.out), (by (with_reducible repeat (first | refine blk_drewN ?_ _ | refine blk_drew ?_ | refine blk_alloc ?_ _)); exact BK189.out), (by repeat (first | (with_reducible first | exact HB.out | apply below_alloc | apply pw_below_drewN | apply below_drew1 | refine below_set ?_ GE189.out) | exact HB.out))⟩)
                                        · skip
                                          refine goes_ Try.func27 (by kernel_rfl) rfl #[.int .i64 a0_3] (by rfl) rfl rfl (by (try simp only [List.map_toArray, List.map_cons, List.map_nil]); first | done | rfl | (simp only [List.length_drop, List.length_take]; rfl)) ?_
                                          with_reducible refine (armadaref03_four.calls a0_3 t196 _ A29.out).mono ?_
                                          rintro e w40 ⟨rfl, hb⟩
                                          refine ⟨_, rfl, ?_⟩
                                          have n0_ := Aside0.mk (Kd.R_below (by (with_reducible repeat (first | apply Kd.R_alloc | apply Kd.R_drewN | apply Kd.R_drew)); exact HO193.out) hb)
                                          have n1_ := Aside0.mk (blk_below (g := gb189) (o := .cells #[.int .i64 a0_0, .int .i64 a0_1, .int .i64 a0_2, .int .i64 a0_3, .int .i64 a0_4] 23 (0, 0)) (by (with_reducible repeat (first | refine blk_drewN ?_ _ | refine blk_drew ?_ | refine blk_alloc ?_ _)); exact BK189.out) hb)
                                          have n2_ := Aside0.mk (below_step (by repeat (first | (with_reducible first | exact HB.out | apply below_alloc | apply pw_below_drewN | apply below_drew1 | refine below_set ?_ GE189.out) | exact HB.out)) hb)
                                          clear HO193
                                          clear BK189
                                          clear HB
                                          have HO193 := n0_
                                          have BK189 := n1_
                                          have HB := n2_
                                          clear n0_ n1_ n2_
                                          (try clear hb)
                                          (try clear hb2)
                                          (try clear hk)
                                          (try clear hi)
                                          refine hK.out _ _ ⟨(blk_cell BK189.out 0).trans rfl, (blk_cell BK189.out 1).trans rfl, (blk_cell BK189.out 2).trans rfl, (blk_cell BK189.out 3).trans rfl, (blk_cell BK189.out 4).trans rfl⟩ (fun hHeld => ?_)
                                          clear hK K
                                          refine norm_ (a' := ?_) ?_ ?_
                                          rotate_left
                                          · show Act.put _ (some 62) _ = _
                                            simp only [Act.put, List.setIfInBounds_toArray, List.set_cons_zero, List.set_cons_succ, i64_w, i32_w]
                                            rfl
                                          exact norm_ (by first | (simp only [putAll, Act.put, List.setIfInBounds_toArray, List.set_cons_zero, List.set_cons_succ]; done) | (simp only [putAll, Act.put, List.setIfInBounds_toArray, List.set_cons_zero, List.set_cons_succ]; rfl)) (hJ3_8_12_16 (v192) _ ⟨hHeld, (by (with_reducible repeat (first | apply Kd.R_alloc | apply Kd.R_drewN | apply Kd.R_drew)); exact HO193.out), (by (with_reducible repeat (first | refine blk_drewN ?_ _ | refine blk_drew ?_ | refine blk_alloc ?_ _)); exact BK189.out), (by repeat (first | (with_reducible first | exact HB.out | apply below_alloc | apply pw_below_drewN | apply below_drew1 | refine below_set ?_ GE189.out) | exact HB.out))⟩)
                                    · skip
                                      rintro v192 w39 ⟨hS_, h0_, h1_, h2_⟩
                                      have n0_ : Aside0 (Kd.R (Kd.int .u8) 5 w39 w.heap.size (fun _ => True) v192 y191) := ⟨h0_⟩
                                      have n1_ : Aside0 (w39.heap[gb189]? = some (.cells #[.int .i64 a0_0, .int .i64 a0_1, .int .i64 a0_2, .int .i64 a0_3, .int .i64 a0_4] 23 (0, 0))) := ⟨h1_⟩
                                      have n2_ : Aside0 (Below w.heap.size w w39) := ⟨h2_⟩
                                      clear BK189
                                      clear HB
                                      clear h0_ h1_ h2_
                                      have HO193 := n0_
                                      have BK189 := n1_
                                      have HB := n2_
                                      clear n0_ n1_ n2_
                                      have hHeld : w39.cell? ⟨gb189, 0, none⟩ = some (.int .i64 a0_0) ∧ w39.cell? ⟨gb189, 1, none⟩ = some (.int .i64 a0_1) ∧ w39.cell? ⟨gb189, 2, none⟩ = some (.int .i64 a0_2) ∧ w39.cell? ⟨gb189, 3, none⟩ = some (.int .i64 a0_3) ∧ w39.cell? ⟨gb189, 4, none⟩ = some (.int .i64 a0_4) := hS_
                                      refine norm_ (a' := ?_) ?_ ?_
                                      rotate_left
                                      · simp only [putAll, Act.put, List.setIfInBounds_toArray, List.set_cons_zero, List.set_cons_succ]
                                        rfl
                                      refine one_ (i := 12) (N := some 58) #[true, true, true, true, true, true, true, true, true, true, true, true, true, false, true, true, false, false, true, true, false, false, false, false, false] rfl rfl (one_of HT_.out (by kernel_rfl)) (by decide) (fun K hK => ?_)
                                      refine goes_ Try.func27 (by kernel_rfl) rfl #[.int .i64 a0_2] (by rfl) rfl rfl (by (try simp only [List.map_toArray, List.map_cons, List.map_nil]); first | done | rfl | (simp only [List.length_drop, List.length_take]; rfl)) ?_
                                      with_reducible refine (armadaref03_four.calls a0_2 t195 _ A27.out).mono ?_
                                      rintro e w40 ⟨rfl, hb⟩
                                      refine ⟨_, rfl, ?_⟩
                                      have n0_ := Aside0.mk (Kd.R_below (by (with_reducible repeat (first | apply Kd.R_alloc | apply Kd.R_drewN | apply Kd.R_drew)); exact HO193.out) hb)
                                      have n1_ := Aside0.mk (blk_below (g := gb189) (o := .cells #[.int .i64 a0_0, .int .i64 a0_1, .int .i64 a0_2, .int .i64 a0_3, .int .i64 a0_4] 23 (0, 0)) (by (with_reducible repeat (first | refine blk_drewN ?_ _ | refine blk_drew ?_ | refine blk_alloc ?_ _)); exact BK189.out) hb)
                                      have n2_ := Aside0.mk (below_step (by repeat (first | (with_reducible first | exact HB.out | apply below_alloc | apply pw_below_drewN | apply below_drew1 | refine below_set ?_ GE189.out) | exact HB.out)) hb)
                                      clear HO193
                                      clear BK189
                                      clear HB
                                      have HO193 := n0_
                                      have BK189 := n1_
                                      have HB := n2_
                                      clear n0_ n1_ n2_
                                      (try clear hb)
                                      (try clear hb2)
                                      (try clear hk)
                                      (try clear hi)
                                      refine hK.out _ _ ⟨(blk_cell BK189.out 0).trans rfl, (blk_cell BK189.out 1).trans rfl, (blk_cell BK189.out 2).trans rfl, (blk_cell BK189.out 3).trans rfl, (blk_cell BK189.out 4).trans rfl⟩ (fun hHeld => ?_)
                                      clear hK K
                                      refine norm_ (a' := ?_) ?_ ?_
                                      rotate_left
                                      · show Act.put _ (some 58) _ = _
                                        simp only [Act.put, List.setIfInBounds_toArray, List.set_cons_zero, List.set_cons_succ, i64_w, i32_w]
                                        rfl
                                      refine pure_ (i := 13) (N := some 59) (v := ?_) (a' := ?_) #[true, true, true, true, true, true, true, true, true, true, true, true, true, true, true, true, false, false, true, true, false, false, false, false, false] rfl rfl (any_of HT_.out (by kernel_rfl)) (fun _ _ _ h => h) (Or.inl ⟨by rfl, ?_⟩) ?_ ?_
                                      rotate_left
                                      · intro w'
                                        go_simp
                                        with_reducible rfl
                                      rotate_left
                                      · simp only [Act.put, List.setIfInBounds_toArray, List.set_cons_zero, List.set_cons_succ, i64_w, i32_w]
                                        rfl
                                      exact norm_ (by first | (simp only [putAll, Act.put, List.setIfInBounds_toArray, List.set_cons_zero, List.set_cons_succ]; done) | (simp only [putAll, Act.put, List.setIfInBounds_toArray, List.set_cons_zero, List.set_cons_succ]; rfl)) (hJ3_4_8_12 (v192) _ ⟨hHeld, (by (with_reducible repeat (first | apply Kd.R_alloc | apply Kd.R_drewN | apply Kd.R_drew)); exact HO193.out), (by (with_reducible repeat (first | refine blk_drewN ?_ _ | refine blk_drew ?_ | refine blk_alloc ?_ _)); exact BK189.out), (by repeat (first | (with_reducible first | exact HB.out | apply below_alloc | apply pw_below_drewN | apply below_drew1 | refine below_set ?_ GE189.out) | exact HB.out))⟩)
                                  · skip
                                    rintro _ w39 ⟨hS_, h0_, h1_⟩
                                    have n0_ : Aside0 (w39.heap[gb189]? = some (.cells #[.int .i64 a0_0, .int .i64 a0_1, .int .i64 a0_2, .int .i64 a0_3, .int .i64 a0_4] 23 (0, 0))) := ⟨h0_⟩
                                    have n1_ : Aside0 (Below w.heap.size w w39) := ⟨h1_⟩
                                    clear BK189
                                    clear HB
                                    clear h0_ h1_
                                    have BK189 := n0_
                                    have HB := n1_
                                    clear n0_ n1_
                                    have hHeld : w39.cell? ⟨gb189, 0, none⟩ = some (.int .i64 a0_0) ∧ w39.cell? ⟨gb189, 1, none⟩ = some (.int .i64 a0_1) ∧ w39.cell? ⟨gb189, 2, none⟩ = some (.int .i64 a0_2) ∧ w39.cell? ⟨gb189, 3, none⟩ = some (.int .i64 a0_3) ∧ w39.cell? ⟨gb189, 4, none⟩ = some (.int .i64 a0_4) := hS_
                                    refine norm_ (a' := ?_) ?_ ?_
                                    rotate_left
                                    · simp only [putAll, Act.put, List.setIfInBounds_toArray, List.set_cons_zero, List.set_cons_succ]
                                      rfl
                                    refine one_ (i := 3) (N := some 49) #[true, true, true, true, false, false, true, true, true, false, true, true, true, false, true, true, true, false, true, true, true, false, false, false, false] rfl rfl (one_of HT_.out (by kernel_rfl)) (by decide) (fun K hK => ?_)
                                    refine Kd.R_lit_step (Kd.int .u8) _ 5 ?hg (N := 49) ?hd (xs := ([(a0_0) % 256] : List Int)) (inner := [.int .u8 ((a0_0) % 256)]) (ok := fun _ => True) (okp := fun _ => True) ?hr ?hp (fun _ hk => hk) trivial (Below.refl _ _) (Nat.le_refl _) (by simp) ?_; (case hd => rfl); (case hg => rfl); (case hr => first | (go_simp; done) | (go_simp; rfl)); (case hp => exact (Reps.one (show Kd.M (Kd.int .u8) _ _ _ ((a0_0) % 256) [.int .u8 ((a0_0) % 256)] from rfl) (Reps.none _ _)))
                                    intro v192 w40 ho41 hb hg_ hnew_
                                    clear hg_ hnew_
                                    (first | rw [← Ny191.out] at ho41 | (simp only [Int.reduceToNat] at ho41; rw [← Ny191.out] at ho41))
                                    have n0_ := Aside0.mk (Kd.R_lower ho41 (below_size (by repeat (first | (with_reducible first | exact HB.out | apply below_alloc | apply pw_below_drewN | apply below_drew1 | refine below_set ?_ GE189.out) | exact HB.out))))
                                    have n1_ := Aside0.mk (blk_below (g := gb189) (o := .cells #[.int .i64 a0_0, .int .i64 a0_1, .int .i64 a0_2, .int .i64 a0_3, .int .i64 a0_4] 23 (0, 0)) (by (with_reducible repeat (first | refine blk_drewN ?_ _ | refine blk_drew ?_ | refine blk_alloc ?_ _)); exact BK189.out) hb)
                                    have n2_ := Aside0.mk (below_step (by repeat (first | (with_reducible first | exact HB.out | apply below_alloc | apply pw_below_drewN | apply below_drew1 | refine below_set ?_ GE189.out) | exact HB.out)) hb)
                                    clear BK189
                                    clear HB
                                    have HO193 := n0_
                                    have BK189 := n1_
                                    have HB := n2_
                                    clear n0_ n1_ n2_
                                    clear hb ho41
                                    refine hK.out _ _ ⟨(blk_cell BK189.out 0).trans rfl, (blk_cell BK189.out 1).trans rfl, (blk_cell BK189.out 2).trans rfl, (blk_cell BK189.out 3).trans rfl, (blk_cell BK189.out 4).trans rfl⟩ (fun hHeld => ?_)
                                    clear hK K
                                    refine norm_ (a' := ?_) ?_ ?_
                                    rotate_left
                                    · show Act.put _ (some 49) _ = _
                                      simp only [Act.put, List.setIfInBounds_toArray, List.set_cons_zero, List.set_cons_succ, i64_w, i32_w]
                                      rfl
                                    exact norm_ (by first | (simp only [putAll, Act.put, List.setIfInBounds_toArray, List.set_cons_zero, List.set_cons_succ]; done) | (simp only [putAll, Act.put, List.setIfInBounds_toArray, List.set_cons_zero, List.set_cons_succ]; rfl)) (hJ3_8_12_16_20 (v192) _ ⟨hHeld, (by (with_reducible repeat (first | apply Kd.R_alloc | apply Kd.R_drewN | apply Kd.R_drew)); exact HO193.out), (by (with_reducible repeat (first | refine blk_drewN ?_ _ | refine blk_drew ?_ | refine blk_alloc ?_ _)); exact BK189.out), (by repeat (first | (with_reducible first | exact HB.out | apply below_alloc | apply pw_below_drewN | apply below_drew1 | refine below_set ?_ GE189.out) | exact HB.out))⟩)
                                · skip
                                  rintro v192 w40 ⟨hS_, h0_, h1_, h2_⟩
                                  have n0_ : Aside0 (Kd.R (Kd.int .u8) 5 w40 w.heap.size (fun _ => True) v192 y191) := ⟨h0_⟩
                                  have n1_ : Aside0 (w40.heap[gb189]? = some (.cells #[.int .i64 a0_0, .int .i64 a0_1, .int .i64 a0_2, .int .i64 a0_3, .int .i64 a0_4] 23 (0, 0))) := ⟨h1_⟩
                                  have n2_ : Aside0 (Below w.heap.size w w40) := ⟨h2_⟩
                                  clear BK189
                                  clear HB
                                  clear h0_ h1_ h2_
                                  have HO193 := n0_
                                  have BK189 := n1_
                                  have HB := n2_
                                  clear n0_ n1_ n2_
                                  have hHeld : w40.cell? ⟨gb189, 0, none⟩ = some (.int .i64 a0_0) ∧ w40.cell? ⟨gb189, 1, none⟩ = some (.int .i64 a0_1) ∧ w40.cell? ⟨gb189, 2, none⟩ = some (.int .i64 a0_2) ∧ w40.cell? ⟨gb189, 3, none⟩ = some (.int .i64 a0_3) ∧ w40.cell? ⟨gb189, 4, none⟩ = some (.int .i64 a0_4) := hS_
                                  refine norm_ (a' := ?_) ?_ ?_
                                  rotate_left
                                  · simp only [putAll, Act.put, List.setIfInBounds_toArray, List.set_cons_zero, List.set_cons_succ]
                                    rfl
                                  refine two_ (i := 4) (j := 20) (Ni := some 50) (Nj := some 66) #[true, true, true, true, true, false, true, true, true, false, true, true, true, false, true, true, true, false, true, true, false, false, false, false, false] #[true, true, true, true, false, false, true, true, true, false, true, true, true, false, true, true, true, false, true, true, true, false, false, false, false] rfl rfl rfl rfl (two_of HT_.out (by kernel_rfl)) (by decide) (by decide) (fun K hK => ?_) (fun K hK => ?_)
                                  · skip
                                    have hcv41 := own_string (P := Try.prog) Try.underlying44 Try.underlying5 Try.underlying9 (Kd.own_of_R HO193.out)
                                    refine value_ (w1 := ?_) (v := ?_) (by rfl) rfl ?_ ?_
                                    rotate_left 2
                                    · go_simp
                                      constructor
                                      · rfl
                                      · rfl
                                    clear hcv41
                                    refine hK.out _ _ ⟨(blk_cell BK189.out 0).trans rfl, (blk_cell BK189.out 1).trans rfl, (blk_cell BK189.out 2).trans rfl, (blk_cell BK189.out 3).trans rfl, (blk_cell BK189.out 4).trans rfl⟩ (fun hHeld => ?_)
                                    clear hK K
                                    refine norm_ (a' := ?_) ?_ ?_
                                    rotate_left
                                    · show Act.put _ (some 50) _ = _
                                      simp only [Act.put, List.setIfInBounds_toArray, List.set_cons_zero, List.set_cons_succ, i64_w, i32_w]
                                      rfl
                                    refine pure_ (i := 5) (N := some 51) (v := ?_) (a' := ?_) #[true, true, true, true, true, true, true, true, true, false, true, true, true, false, true, true, true, false, true, true, false, false, false, false, false] rfl rfl (any_of HT_.out (by kernel_rfl)) (fun _ _ _ h => h) (Or.inl ⟨by rfl, ?_⟩) ?_ ?_
                                    rotate_left
                                    · intro w'
                                      go_simp
                                      with_reducible rfl
                                    rotate_left
                                    · simp only [Act.put, List.setIfInBounds_toArray, List.set_cons_zero, List.set_cons_succ, i64_w, i32_w]
                                      rfl
                                    refine pure_ (i := 9) (N := some 55) (v := ?_) (a' := ?_) #[true, true, true, true, true, true, true, true, true, true, true, true, true, false, true, true, true, false, true, true, false, false, false, false, false] rfl rfl (any_of HT_.out (by kernel_rfl)) (fun _ _ _ h => h) (Or.inl ⟨by rfl, ?_⟩) ?_ ?_
                                    rotate_left
                                    · intro w'
                                      go_simp
                                      with_reducible rfl
                                    rotate_left
                                    · simp only [Act.put, List.setIfInBounds_toArray, List.set_cons_zero, List.set_cons_succ, i64_w, i32_w]
                                      rfl
                                    refine pure_ (i := 13) (N := some 59) (v := ?_) (a' := ?_) #[true, true, true, true, true, true, true, true, true, true, true, true, true, true, true, true, true, false, true, true, false, false, false, false, false] rfl rfl (any_of HT_.out (by kernel_rfl)) (fun _ _ _ h => h) (Or.inl ⟨by rfl, ?_⟩) ?_ ?_
                                    rotate_left
                                    · intro w'
                                      go_simp
                                      with_reducible rfl
                                    rotate_left
                                    · simp only [Act.put, List.setIfInBounds_toArray, List.set_cons_zero, List.set_cons_succ, i64_w, i32_w]
                                      rfl
                                    refine pure_ (i := 17) (N := some 63) (v := ?_) (a' := ?_) #[true, true, true, true, true, true, true, true, true, true, true, true, true, true, true, true, true, true, true, true, false, false, false, false, false] rfl rfl (any_of HT_.out (by kernel_rfl)) (fun _ _ _ h => h) (Or.inl ⟨by rfl, ?_⟩) ?_ ?_
                                    rotate_left
                                    · intro w'
                                      go_simp
                                      with_reducible rfl
                                    rotate_left
                                    · simp only [Act.put, List.setIfInBounds_toArray, List.set_cons_zero, List.set_cons_succ, i64_w, i32_w]
                                      rfl
                                    exact norm_ (by first | (simp only [putAll, Act.put, List.setIfInBounds_toArray, List.set_cons_zero, List.set_cons_succ]; done) | (simp only [putAll, Act.put, List.setIfInBounds_toArray, List.set_cons_zero, List.set_cons_succ]; rfl)) (hJ3_4_8_12_16 (v192) _ ⟨hHeld, (by (with_reducible repeat (first | apply Kd.R_alloc | apply Kd.R_drewN | apply Kd.R_drew)); exact HO193.out), (by (with_reducible repeat (first | refine blk_drewN ?_ _ | refine blk_drew ?_ | refine blk_alloc ?_ _)); exact BK189.out), (by repeat (first | (with_reducible first | exact HB.out | apply below_alloc | apply pw_below_drewN | apply below_drew1 | refine below_set ?_ GE189.out) | exact HB.out))⟩)
                                  · skip
                                    refine goes_ Try.func27 (by kernel_rfl) rfl #[.int .i64 a0_4] (by rfl) rfl rfl (by (try simp only [List.map_toArray, List.map_cons, List.map_nil]); first | done | rfl | (simp only [List.length_drop, List.length_take]; rfl)) ?_
                                    with_reducible refine (armadaref03_four.calls a0_4 t197 _ A31.out).mono ?_
                                    rintro e w41 ⟨rfl, hb⟩
                                    refine ⟨_, rfl, ?_⟩
                                    have n0_ := Aside0.mk (Kd.R_below (by (with_reducible repeat (first | apply Kd.R_alloc | apply Kd.R_drewN | apply Kd.R_drew)); exact HO193.out) hb)
                                    have n1_ := Aside0.mk (blk_below (g := gb189) (o := .cells #[.int .i64 a0_0, .int .i64 a0_1, .int .i64 a0_2, .int .i64 a0_3, .int .i64 a0_4] 23 (0, 0)) (by (with_reducible repeat (first | refine blk_drewN ?_ _ | refine blk_drew ?_ | refine blk_alloc ?_ _)); exact BK189.out) hb)
                                    have n2_ := Aside0.mk (below_step (by repeat (first | (with_reducible first | exact HB.out | apply below_alloc | apply pw_below_drewN | apply below_drew1 | refine below_set ?_ GE189.out) | exact HB.out)) hb)
                                    clear HO193
                                    clear BK189
                                    clear HB
                                    have HO193 := n0_
                                    have BK189 := n1_
                                    have HB := n2_
                                    clear n0_ n1_ n2_
                                    (try clear hb)
                                    (try clear hb2)
                                    (try clear hk)
                                    (try clear hi)
                                    refine hK.out _ _ ⟨(blk_cell BK189.out 0).trans rfl, (blk_cell BK189.out 1).trans rfl, (blk_cell BK189.out 2).trans rfl, (blk_cell BK189.out 3).trans rfl, (blk_cell BK189.out 4).trans rfl⟩ (fun hHeld => ?_)
                                    clear hK K
                                    refine norm_ (a' := ?_) ?_ ?_
                                    rotate_left
                                    · show Act.put _ (some 66) _ = _
                                      simp only [Act.put, List.setIfInBounds_toArray, List.set_cons_zero, List.set_cons_succ, i64_w, i32_w]
                                      rfl
                                    exact norm_ (by first | (simp only [putAll, Act.put, List.setIfInBounds_toArray, List.set_cons_zero, List.set_cons_succ]; done) | (simp only [putAll, Act.put, List.setIfInBounds_toArray, List.set_cons_zero, List.set_cons_succ]; rfl)) (hJ3_8_12_16_20 (v192) _ ⟨hHeld, (by (with_reducible repeat (first | apply Kd.R_alloc | apply Kd.R_drewN | apply Kd.R_drew)); exact HO193.out), (by (with_reducible repeat (first | refine blk_drewN ?_ _ | refine blk_drew ?_ | refine blk_alloc ?_ _)); exact BK189.out), (by repeat (first | (with_reducible first | exact HB.out | apply below_alloc | apply pw_below_drewN | apply below_drew1 | refine below_set ?_ GE189.out) | exact HB.out))⟩)
                              · skip
                                rintro v192 w40 ⟨hS_, h0_, h1_, h2_⟩
                                have n0_ : Aside0 (Kd.R (Kd.int .u8) 5 w40 w.heap.size (fun _ => True) v192 y191) := ⟨h0_⟩
                                have n1_ : Aside0 (w40.heap[gb189]? = some (.cells #[.int .i64 a0_0, .int .i64 a0_1, .int .i64 a0_2, .int .i64 a0_3, .int .i64 a0_4] 23 (0, 0))) := ⟨h1_⟩
                                have n2_ : Aside0 (Below w.heap.size w w40) := ⟨h2_⟩
                                clear BK189
                                clear HB
                                clear h0_ h1_ h2_
                                have HO193 := n0_
                                have BK189 := n1_
                                have HB := n2_
                                clear n0_ n1_ n2_
                                have hHeld : w40.cell? ⟨gb189, 0, none⟩ = some (.int .i64 a0_0) ∧ w40.cell? ⟨gb189, 1, none⟩ = some (.int .i64 a0_1) ∧ w40.cell? ⟨gb189, 2, none⟩ = some (.int .i64 a0_2) ∧ w40.cell? ⟨gb189, 3, none⟩ = some (.int .i64 a0_3) ∧ w40.cell? ⟨gb189, 4, none⟩ = some (.int .i64 a0_4) := hS_
                                refine norm_ (a' := ?_) ?_ ?_
                                rotate_left
                                · simp only [putAll, Act.put, List.setIfInBounds_toArray, List.set_cons_zero, List.set_cons_succ]
                                  rfl
                                refine one_ (i := 16) (N := some 62) #[true, true, true, true, true, true, true, true, true, true, true, true, true, true, true, true, true, false, true, true, false, false, false, false, false] rfl rfl (one_of HT_.out (by kernel_rfl)) (by decide) (fun K hK => ?_)
                                refine goes_ Try.func27 (by kernel_rfl) rfl #[.int .i64 a0_3] (by rfl) rfl rfl (by (try simp only [List.map_toArray, List.map_cons, List.map_nil]); first | done | rfl | (simp only [List.length_drop, List.length_take]; rfl)) ?_
                                with_reducible refine (armadaref03_four.calls a0_3 t196 _ A29.out).mono ?_
                                rintro e w41 ⟨rfl, hb⟩
                                refine ⟨_, rfl, ?_⟩
                                have n0_ := Aside0.mk (Kd.R_below (by (with_reducible repeat (first | apply Kd.R_alloc | apply Kd.R_drewN | apply Kd.R_drew)); exact HO193.out) hb)
                                have n1_ := Aside0.mk (blk_below (g := gb189) (o := .cells #[.int .i64 a0_0, .int .i64 a0_1, .int .i64 a0_2, .int .i64 a0_3, .int .i64 a0_4] 23 (0, 0)) (by (with_reducible repeat (first | refine blk_drewN ?_ _ | refine blk_drew ?_ | refine blk_alloc ?_ _)); exact BK189.out) hb)
                                have n2_ := Aside0.mk (below_step (by repeat (first | (with_reducible first | exact HB.out | apply below_alloc | apply pw_below_drewN | apply below_drew1 | refine below_set ?_ GE189.out) | exact HB.out)) hb)
                                clear HO193
                                clear BK189
                                clear HB
                                have HO193 := n0_
                                have BK189 := n1_
                                have HB := n2_
                                clear n0_ n1_ n2_
                                (try clear hb)
                                (try clear hb2)
                                (try clear hk)
                                (try clear hi)
                                refine hK.out _ _ ⟨(blk_cell BK189.out 0).trans rfl, (blk_cell BK189.out 1).trans rfl, (blk_cell BK189.out 2).trans rfl, (blk_cell BK189.out 3).trans rfl, (blk_cell BK189.out 4).trans rfl⟩ (fun hHeld => ?_)
                                clear hK K
                                refine norm_ (a' := ?_) ?_ ?_
                                rotate_left
                                · show Act.put _ (some 62) _ = _
                                  simp only [Act.put, List.setIfInBounds_toArray, List.set_cons_zero, List.set_cons_succ, i64_w, i32_w]
                                  rfl
                                refine pure_ (i := 17) (N := some 63) (v := ?_) (a' := ?_) #[true, true, true, true, true, true, true, true, true, true, true, true, true, true, true, true, true, true, true, true, false, false, false, false, false] rfl rfl (any_of HT_.out (by kernel_rfl)) (fun _ _ _ h => h) (Or.inl ⟨by rfl, ?_⟩) ?_ ?_
                                rotate_left
                                · intro w'
                                  go_simp
                                  with_reducible rfl
                                rotate_left
                                · simp only [Act.put, List.setIfInBounds_toArray, List.set_cons_zero, List.set_cons_succ, i64_w, i32_w]
                                  rfl
                                exact norm_ (by first | (simp only [putAll, Act.put, List.setIfInBounds_toArray, List.set_cons_zero, List.set_cons_succ]; done) | (simp only [putAll, Act.put, List.setIfInBounds_toArray, List.set_cons_zero, List.set_cons_succ]; rfl)) (hJ3_4_8_12_16 (v192) _ ⟨hHeld, (by (with_reducible repeat (first | apply Kd.R_alloc | apply Kd.R_drewN | apply Kd.R_drew)); exact HO193.out), (by (with_reducible repeat (first | refine blk_drewN ?_ _ | refine blk_drew ?_ | refine blk_alloc ?_ _)); exact BK189.out), (by repeat (first | (with_reducible first | exact HB.out | apply below_alloc | apply pw_below_drewN | apply below_drew1 | refine below_set ?_ GE189.out) | exact HB.out))⟩)
                            · skip
                              rintro v192 w41 ⟨hS_, h0_, h1_, h2_⟩
                              have n0_ : Aside0 (Kd.R (Kd.int .u8) 5 w41 w.heap.size (fun _ => True) v192 y191) := ⟨h0_⟩
                              have n1_ : Aside0 (w41.heap[gb189]? = some (.cells #[.int .i64 a0_0, .int .i64 a0_1, .int .i64 a0_2, .int .i64 a0_3, .int .i64 a0_4] 23 (0, 0))) := ⟨h1_⟩
                              have n2_ : Aside0 (Below w.heap.size w w41) := ⟨h2_⟩
                              clear BK189
                              clear HB
                              clear h0_ h1_ h2_
                              have HO193 := n0_
                              have BK189 := n1_
                              have HB := n2_
                              clear n0_ n1_ n2_
                              have hHeld : w41.cell? ⟨gb189, 0, none⟩ = some (.int .i64 a0_0) ∧ w41.cell? ⟨gb189, 1, none⟩ = some (.int .i64 a0_1) ∧ w41.cell? ⟨gb189, 2, none⟩ = some (.int .i64 a0_2) ∧ w41.cell? ⟨gb189, 3, none⟩ = some (.int .i64 a0_3) ∧ w41.cell? ⟨gb189, 4, none⟩ = some (.int .i64 a0_4) := hS_
                              refine norm_ (a' := ?_) ?_ ?_
                              rotate_left
                              · simp only [putAll, Act.put, List.setIfInBounds_toArray, List.set_cons_zero, List.set_cons_succ]
                                rfl
                              refine one_ (i := 4) (N := some 50) #[true, true, true, true, true, false, true, true, true, false, true, true, true, false, true, true, true, false, true, true, true, false, false, false, false] rfl rfl (one_of HT_.out (by kernel_rfl)) (by decide) (fun K hK => ?_)
                              have hcv42 := own_string (P := Try.prog) Try.underlying44 Try.underlying5 Try.underlying9 (Kd.own_of_R HO193.out)
                              refine value_ (w1 := ?_) (v := ?_) (by rfl) rfl ?_ ?_
                              rotate_left 2
                              · go_simp
                                constructor
                                · rfl
                                · rfl
                              clear hcv42
                              refine hK.out _ _ ⟨(blk_cell BK189.out 0).trans rfl, (blk_cell BK189.out 1).trans rfl, (blk_cell BK189.out 2).trans rfl, (blk_cell BK189.out 3).trans rfl, (blk_cell BK189.out 4).trans rfl⟩ (fun hHeld => ?_)
                              clear hK K
                              refine norm_ (a' := ?_) ?_ ?_
                              rotate_left
                              · show Act.put _ (some 50) _ = _
                                simp only [Act.put, List.setIfInBounds_toArray, List.set_cons_zero, List.set_cons_succ, i64_w, i32_w]
                                rfl
                              refine pure_ (i := 5) (N := some 51) (v := ?_) (a' := ?_) #[true, true, true, true, true, true, true, true, true, false, true, true, true, false, true, true, true, false, true, true, true, false, false, false, false] rfl rfl (any_of HT_.out (by kernel_rfl)) (fun _ _ _ h => h) (Or.inl ⟨by rfl, ?_⟩) ?_ ?_
                              rotate_left
                              · intro w'
                                go_simp
                                with_reducible rfl
                              rotate_left
                              · simp only [Act.put, List.setIfInBounds_toArray, List.set_cons_zero, List.set_cons_succ, i64_w, i32_w]
                                rfl
                              refine pure_ (i := 9) (N := some 55) (v := ?_) (a' := ?_) #[true, true, true, true, true, true, true, true, true, true, true, true, true, false, true, true, true, false, true, true, true, false, false, false, false] rfl rfl (any_of HT_.out (by kernel_rfl)) (fun _ _ _ h => h) (Or.inl ⟨by rfl, ?_⟩) ?_ ?_
                              rotate_left
                              · intro w'
                                go_simp
                                with_reducible rfl
                              rotate_left
                              · simp only [Act.put, List.setIfInBounds_toArray, List.set_cons_zero, List.set_cons_succ, i64_w, i32_w]
                                rfl
                              refine pure_ (i := 13) (N := some 59) (v := ?_) (a' := ?_) #[true, true, true, true, true, true, true, true, true, true, true, true, true, true, true, true, true, false, true, true, true, false, false, false, false] rfl rfl (any_of HT_.out (by kernel_rfl)) (fun _ _ _ h => h) (Or.inl ⟨by rfl, ?_⟩) ?_ ?_
                              rotate_left
                              · intro w'
                                go_simp
                                with_reducible rfl
                              rotate_left
                              · simp only [Act.put, List.setIfInBounds_toArray, List.set_cons_zero, List.set_cons_succ, i64_w, i32_w]
                                rfl
                              refine pure_ (i := 17) (N := some 63) (v := ?_) (a' := ?_) #[true, true, true, true, true, true, true, true, true, true, true, true, true, true, true, true, true, true, true, true, true, false, false, false, false] rfl rfl (any_of HT_.out (by kernel_rfl)) (fun _ _ _ h => h) (Or.inl ⟨by rfl, ?_⟩) ?_ ?_
                              rotate_left
                              · intro w'
                                go_simp
                                with_reducible rfl
                              rotate_left
                              · simp only [Act.put, List.setIfInBounds_toArray, List.set_cons_zero, List.set_cons_succ, i64_w, i32_w]
                                rfl
                              exact norm_ (by first | (simp only [putAll, Act.put, List.setIfInBounds_toArray, List.set_cons_zero, List.set_cons_succ]; done) | (simp only [putAll, Act.put, List.setIfInBounds_toArray, List.set_cons_zero, List.set_cons_succ]; rfl)) (hJ3_4_8_12_16_20 (v192) _ ⟨hHeld, (by (with_reducible repeat (first | apply Kd.R_alloc | apply Kd.R_drewN | apply Kd.R_drew)); exact HO193.out), (by (with_reducible repeat (first | refine blk_drewN ?_ _ | refine blk_drew ?_ | refine blk_alloc ?_ _)); exact BK189.out), (by repeat (first | (with_reducible first | exact HB.out | apply below_alloc | apply pw_below_drewN | apply below_drew1 | refine below_set ?_ GE189.out) | exact HB.out))⟩)
                          · skip
                            rintro v192 w41 ⟨hS_, h0_, h1_, h2_⟩
                            have n0_ : Aside0 (Kd.R (Kd.int .u8) 5 w41 w.heap.size (fun _ => True) v192 y191) := ⟨h0_⟩
                            have n1_ : Aside0 (w41.heap[gb189]? = some (.cells #[.int .i64 a0_0, .int .i64 a0_1, .int .i64 a0_2, .int .i64 a0_3, .int .i64 a0_4] 23 (0, 0))) := ⟨h1_⟩
                            have n2_ : Aside0 (Below w.heap.size w w41) := ⟨h2_⟩
                            clear BK189
                            clear HB
                            clear h0_ h1_ h2_
                            have HO193 := n0_
                            have BK189 := n1_
                            have HB := n2_
                            clear n0_ n1_ n2_
                            have hHeld : w41.cell? ⟨gb189, 0, none⟩ = some (.int .i64 a0_0) ∧ w41.cell? ⟨gb189, 1, none⟩ = some (.int .i64 a0_1) ∧ w41.cell? ⟨gb189, 2, none⟩ = some (.int .i64 a0_2) ∧ w41.cell? ⟨gb189, 3, none⟩ = some (.int .i64 a0_3) ∧ w41.cell? ⟨gb189, 4, none⟩ = some (.int .i64 a0_4) := hS_
                            refine norm_ (a' := ?_) ?_ ?_
                            rotate_left
                            · simp only [putAll, Act.put, List.setIfInBounds_toArray, List.set_cons_zero, List.set_cons_succ]
                              rfl
                            refine one_ (i := 20) (N := some 66) #[true, true, true, true, true, true, true, true, true, true, true, true, true, true, true, true, true, true, true, true, true, false, false, false, false] rfl rfl (one_of HT_.out (by kernel_rfl)) (by decide) (fun K hK => ?_)
                            refine goes_ Try.func27 (by kernel_rfl) rfl #[.int .i64 a0_4] (by rfl) rfl rfl (by (try simp only [List.map_toArray, List.map_cons, List.map_nil]); first | done | rfl | (simp only [List.length_drop, List.length_take]; rfl)) ?_
                            with_reducible refine (armadaref03_four.calls a0_4 t197 _ A31.out).mono ?_
                            rintro e w42 ⟨rfl, hb⟩
                            refine ⟨_, rfl, ?_⟩
                            have n0_ := Aside0.mk (Kd.R_below (by (with_reducible repeat (first | apply Kd.R_alloc | apply Kd.R_drewN | apply Kd.R_drew)); exact HO193.out) hb)
                            have n1_ := Aside0.mk (blk_below (g := gb189) (o := .cells #[.int .i64 a0_0, .int .i64 a0_1, .int .i64 a0_2, .int .i64 a0_3, .int .i64 a0_4] 23 (0, 0)) (by (with_reducible repeat (first | refine blk_drewN ?_ _ | refine blk_drew ?_ | refine blk_alloc ?_ _)); exact BK189.out) hb)
                            have n2_ := Aside0.mk (below_step (by repeat (first | (with_reducible first | exact HB.out | apply below_alloc | apply pw_below_drewN | apply below_drew1 | refine below_set ?_ GE189.out) | exact HB.out)) hb)
                            clear HO193
                            clear BK189
                            clear HB
                            have HO193 := n0_
                            have BK189 := n1_
                            have HB := n2_
                            clear n0_ n1_ n2_
                            (try clear hb)
                            (try clear hb2)
                            (try clear hk)
                            (try clear hi)
                            refine hK.out _ _ ⟨(blk_cell BK189.out 0).trans rfl, (blk_cell BK189.out 1).trans rfl, (blk_cell BK189.out 2).trans rfl, (blk_cell BK189.out 3).trans rfl, (blk_cell BK189.out 4).trans rfl⟩ (fun hHeld => ?_)
                            clear hK K
                            refine norm_ (a' := ?_) ?_ ?_
                            rotate_left
                            · show Act.put _ (some 66) _ = _
                              simp only [Act.put, List.setIfInBounds_toArray, List.set_cons_zero, List.set_cons_succ, i64_w, i32_w]
                              rfl
                            exact norm_ (by first | (simp only [putAll, Act.put, List.setIfInBounds_toArray, List.set_cons_zero, List.set_cons_succ]; done) | (simp only [putAll, Act.put, List.setIfInBounds_toArray, List.set_cons_zero, List.set_cons_succ]; rfl)) (hJ3_4_8_12_16_20 (v192) _ ⟨hHeld, (by (with_reducible repeat (first | apply Kd.R_alloc | apply Kd.R_drewN | apply Kd.R_drew)); exact HO193.out), (by (with_reducible repeat (first | refine blk_drewN ?_ _ | refine blk_drew ?_ | refine blk_alloc ?_ _)); exact BK189.out), (by repeat (first | (with_reducible first | exact HB.out | apply below_alloc | apply pw_below_drewN | apply below_drew1 | refine below_set ?_ GE189.out) | exact HB.out))⟩)
                        rintro v192 w42 ⟨hS_, h0_, h1_, h2_⟩
                        have n0_ : Aside0 (Kd.R (Kd.int .u8) 5 w42 w.heap.size (fun _ => True) v192 y191) := ⟨h0_⟩
                        have n1_ : Aside0 (w42.heap[gb189]? = some (.cells #[.int .i64 a0_0, .int .i64 a0_1, .int .i64 a0_2, .int .i64 a0_3, .int .i64 a0_4] 23 (0, 0))) := ⟨h1_⟩
                        have n2_ : Aside0 (Below w.heap.size w w42) := ⟨h2_⟩
                        clear BK189
                        clear HB
                        clear h0_ h1_ h2_
                        have HO193 := n0_
                        have BK189 := n1_
                        have HB := n2_
                        clear n0_ n1_ n2_
                        have hHeld : w42.cell? ⟨gb189, 0, none⟩ = some (.int .i64 a0_0) ∧ w42.cell? ⟨gb189, 1, none⟩ = some (.int .i64 a0_1) ∧ w42.cell? ⟨gb189, 2, none⟩ = some (.int .i64 a0_2) ∧ w42.cell? ⟨gb189, 3, none⟩ = some (.int .i64 a0_3) ∧ w42.cell? ⟨gb189, 4, none⟩ = some (.int .i64 a0_4) := hS_
                        refine norm_ (a' := ?_) ?_ ?_
                        rotate_left
                        · simp only [putAll, Act.put, List.setIfInBounds_toArray, List.set_cons_zero, List.set_cons_succ]
                          rfl
                        refine pure_ (i := 21) (N := some 67) (v := ?_) (a' := ?_) #[true, true, true, true, true, true, true, true, true, true, true, true, true, true, true, true, true, true, true, true, true, true, false, false, false] rfl rfl (any_of HT_.out (by kernel_rfl)) (fun _ _ _ h => h) (Or.inl ⟨by rfl, ?_⟩) ?_ ?_
                        rotate_left
                        · intro w'
                          go_simp
                          with_reducible rfl
                        rotate_left
                        · simp only [Act.put, List.setIfInBounds_toArray, List.set_cons_zero, List.set_cons_succ, i64_w, i32_w]
                          rfl
                        refine one_ (i := 22) (N := some 68) #[true, true, true, true, true, true, true, true, true, true, true, true, true, true, true, true, true, true, true, true, true, true, true, false, false] rfl rfl (one_of HT_.out (by kernel_rfl)) (by decide) (fun K hK => ?_)
                        refine goes_ Try.func26 (by kernel_rfl) rfl #[.string ((((((⟨#[72]⟩ : ByteArray) ++ (strOfNums y191)) ++ t194) ++ t195) ++ t196) ++ t197)] (by rfl) rfl rfl (by (try simp only [List.map_toArray, List.map_cons, List.map_nil]); first | done | rfl | (simp only [List.length_drop, List.length_take]; rfl)) ?_
                        with_reducible refine (armadaref03_fill.calls kj7 ((((((⟨#[72]⟩ : ByteArray) ++ (strOfNums y191)) ++ t194) ++ t195) ++ t196) ++ t197) t198 _ A33.out).mono ?_
                        rintro e w' ⟨rfl, ⟨nd, rfl⟩⟩
                        refine ⟨_, rfl, ?_⟩
                        refine hK.out _ _ ⟨(blk_cell BK189.out 0).trans rfl, (blk_cell BK189.out 1).trans rfl, (blk_cell BK189.out 2).trans rfl, (blk_cell BK189.out 3).trans rfl, (blk_cell BK189.out 4).trans rfl⟩ (fun hHeld => ?_)
                        clear hK K
                        refine norm_ (a' := ?_) ?_ ?_
                        rotate_left
                        · show Act.put _ (some 68) _ = _
                          simp only [Act.put, List.setIfInBounds_toArray, List.set_cons_zero, List.set_cons_succ, i64_w, i32_w]
                          rfl
                        refine pure_ (i := 23) (N := some 2) (v := ?_) (a' := ?_) #[true, true, true, true, true, true, true, true, true, true, true, true, true, true, true, true, true, true, true, true, true, true, true, true, false] rfl rfl (any_of HT_.out (by kernel_rfl)) (fun _ _ _ h => h) (Or.inl ⟨by rfl, ?_⟩) ?_ ?_
                        rotate_left
                        · intro w'
                          go_simp
                          with_reducible rfl
                        rotate_left
                        · simp only [Act.put, List.setIfInBounds_toArray, List.set_cons_zero, List.set_cons_succ, i64_w, i32_w]
                          rfl
                        refine pure_ (i := 24) (N := some 3) (v := ?_) (a' := ?_) #[true, true, true, true, true, true, true, true, true, true, true, true, true, true, true, true, true, true, true, true, true, true, true, true, true] rfl rfl (any_of HT_.out (by kernel_rfl)) (fun _ _ _ h => h) (Or.inl ⟨by rfl, ?_⟩) ?_ ?_
                        rotate_left
                        · intro w'
                          go_simp
                          with_reducible rfl
                        rotate_left
                        · simp only [Act.put, List.setIfInBounds_toArray, List.set_cons_zero, List.set_cons_succ, i64_w, i32_w]
                          rfl
                        refine done_ (done_of HT_.out (by kernel_rfl)) ?_
                        try go_wp2
                        go_ret2
                        exact ⟨by first | rfl | (simp [errW_none, errW_some] <;> rfl) | (simp [*, errW_none, errW_some] <;> rfl), by repeat (first | (with_reducible first | exact HB.out | apply below_alloc | apply pw_below_drewN | apply below_drew1 | refine below_set ?_ GE189.out) | exact HB.out)⟩
                      · rw [if_neg c32] at H
                        exact absurd H (by simp)
                    · rw [if_neg c30] at H
                      exact absurd H (by simp)
                  · rw [if_neg c28] at H
                    exact absurd H (by simp)
                · rw [if_neg c26] at H
                  exact absurd H (by simp)
              · rw [if_neg c24] at H
                exact absurd H (by simp)
def armadaref03_number.f (a0 : ByteArray) (a1 : Int) : Option (Int) := if 0 ≤ a1 then (if a1 < (a0.size : Int) then (if 0 ≤ (wrap64 (a1 + 1)) then (if (wrap64 (a1 + 1)) < (a0.size : Int) then (if 0 ≤ (wrap64 (a1 + 2)) then (if (wrap64 (a1 + 2)) < (a0.size : Int) then (if 0 ≤ (wrap64 (a1 + 3)) then (if (wrap64 (a1 + 3)) < (a0.size : Int) then (some (wrap64 ((wrap64 ((wrap64 ((wrap64 (16777216 * (wrap64 (bt a0 a1)))) + (wrap64 (65536 * (wrap64 (bt a0 (wrap64 (a1 + 1)))))))) + (wrap64 (256 * (wrap64 (bt a0 (wrap64 (a1 + 2)))))))) + (wrap64 (bt a0 (wrap64 (a1 + 3))))))) else (none)) else (none)) else (none)) else (none)) else (none)) else (none)) else (none)) else (none)
set_option maxHeartbeats 8000000 in
set_option maxRecDepth 100000 in
theorem armadaref03_number.calls (a0 : ByteArray) (a1 : Int) (r : Int) (w : World) (h : armadaref03_number.f a0 a1 = some r) :
    Calls Try.prog 29 #[.string a0, .int .i64 a1] w fun e w' => e = .returned (.int .i64 r) ∧ Drawn0 w w' := by
  have H : (if 0 ≤ a1 then (if a1 < (a0.size : Int) then (if 0 ≤ (wrap64 (a1 + 1)) then (if (wrap64 (a1 + 1)) < (a0.size : Int) then (if 0 ≤ (wrap64 (a1 + 2)) then (if (wrap64 (a1 + 2)) < (a0.size : Int) then (if 0 ≤ (wrap64 (a1 + 3)) then (if (wrap64 (a1 + 3)) < (a0.size : Int) then (some (wrap64 ((wrap64 ((wrap64 ((wrap64 (16777216 * (wrap64 (bt a0 a1)))) + (wrap64 (65536 * (wrap64 (bt a0 (wrap64 (a1 + 1)))))))) + (wrap64 (256 * (wrap64 (bt a0 (wrap64 (a1 + 2)))))))) + (wrap64 (bt a0 (wrap64 (a1 + 3))))))) else (none)) else (none)) else (none)) else (none)) else (none)) else (none)) else (none)) else (none)) = some r := h
  clear h
  by_cases c3 : 0 ≤ a1
  · rw [if_pos c3] at H
    have c3b0 : decide (0 ≤ a1) = true := decide_eq_true c3
    clear c3
    by_cases c4 : a1 < (a0.size : Int)
    · rw [if_pos c4] at H
      have c4b0 : decide (a1 < (a0.size : Int)) = true := decide_eq_true c4
      clear c4
      obtain ⟨ji6, hji6⟩ : ∃ j_ : Int, (wrap64 (a1 + 1)) = j_ := ⟨_, rfl⟩
      replace H : (if 0 ≤ (ji6) then (if (ji6) < (a0.size : Int) then (if 0 ≤ (wrap64 (a1 + 2)) then (if (wrap64 (a1 + 2)) < (a0.size : Int) then (if 0 ≤ (wrap64 (a1 + 3)) then (if (wrap64 (a1 + 3)) < (a0.size : Int) then (some (wrap64 ((wrap64 ((wrap64 ((wrap64 (16777216 * (wrap64 (bt a0 a1)))) + (wrap64 (65536 * (wrap64 (bt a0 (ji6))))))) + (wrap64 (256 * (wrap64 (bt a0 (wrap64 (a1 + 2)))))))) + (wrap64 (bt a0 (wrap64 (a1 + 3))))))) else (none)) else (none)) else (none)) else (none)) else (none)) else (none)) = some r := by first | (rw [hji6] at H; exact H) | (simp only [hji6] at H ⊢; exact H)
      have hji6w : (IntKind.i64.wrap (a1 + 1)) = ji6 := (i64_w _).trans hji6
      by_cases c7 : 0 ≤ (ji6)
      · rw [if_pos c7] at H
        have c7b0 : decide (0 ≤ (ji6)) = true := decide_eq_true c7
        clear c7
        by_cases c8 : (ji6) < (a0.size : Int)
        · rw [if_pos c8] at H
          have c8b0 : decide ((ji6) < (a0.size : Int)) = true := decide_eq_true c8
          clear c8
          obtain ⟨ji10, hji10⟩ : ∃ j_ : Int, (wrap64 (a1 + 2)) = j_ := ⟨_, rfl⟩
          replace H : (if 0 ≤ (ji10) then (if (ji10) < (a0.size : Int) then (if 0 ≤ (wrap64 (a1 + 3)) then (if (wrap64 (a1 + 3)) < (a0.size : Int) then (some (wrap64 ((wrap64 ((wrap64 ((wrap64 (16777216 * (wrap64 (bt a0 a1)))) + (wrap64 (65536 * (wrap64 (bt a0 (ji6))))))) + (wrap64 (256 * (wrap64 (bt a0 (ji10))))))) + (wrap64 (bt a0 (wrap64 (a1 + 3))))))) else (none)) else (none)) else (none)) else (none)) = some r := by first | (rw [hji10] at H; exact H) | (simp only [hji10] at H ⊢; exact H)
          have hji10w : (IntKind.i64.wrap (a1 + 2)) = ji10 := (i64_w _).trans hji10
          by_cases c11 : 0 ≤ (ji10)
          · rw [if_pos c11] at H
            have c11b0 : decide (0 ≤ (ji10)) = true := decide_eq_true c11
            clear c11
            by_cases c12 : (ji10) < (a0.size : Int)
            · rw [if_pos c12] at H
              have c12b0 : decide ((ji10) < (a0.size : Int)) = true := decide_eq_true c12
              clear c12
              obtain ⟨ji14, hji14⟩ : ∃ j_ : Int, (wrap64 (a1 + 3)) = j_ := ⟨_, rfl⟩
              replace H : (if 0 ≤ (ji14) then (if (ji14) < (a0.size : Int) then (some (wrap64 ((wrap64 ((wrap64 ((wrap64 (16777216 * (wrap64 (bt a0 a1)))) + (wrap64 (65536 * (wrap64 (bt a0 (ji6))))))) + (wrap64 (256 * (wrap64 (bt a0 (ji10))))))) + (wrap64 (bt a0 (ji14)))))) else (none)) else (none)) = some r := by first | (rw [hji14] at H; exact H) | (simp only [hji14] at H ⊢; exact H)
              have hji14w : (IntKind.i64.wrap (a1 + 3)) = ji14 := (i64_w _).trans hji14
              by_cases c15 : 0 ≤ (ji14)
              · rw [if_pos c15] at H
                have c15b0 : decide (0 ≤ (ji14)) = true := decide_eq_true c15
                clear c15
                by_cases c16 : (ji14) < (a0.size : Int)
                · rw [if_pos c16] at H
                  have c16b0 : decide ((ji14) < (a0.size : Int)) = true := decide_eq_true c16
                  clear c16
                  obtain rfl := Option.some.inj H
                  have p5 : 0 ≤ (a1 : Int) := of_decide_eq_true (by first | (with_reducible assumption) | assumption)
                  have q5 : a1 < (a0.size : Int) := of_decide_eq_true (by first | (with_reducible assumption) | assumption)
                  have hx5 := bt_at a0 a1
                  replace p5 := eq_true p5
                  replace q5 := eq_true q5
                  have p9 : 0 ≤ ((ji6) : Int) := of_decide_eq_true (by first | (with_reducible assumption) | assumption)
                  have q9 : (ji6) < (a0.size : Int) := of_decide_eq_true (by first | (with_reducible assumption) | assumption)
                  have hx9 := bt_at a0 (ji6)
                  replace p9 := eq_true p9
                  replace q9 := eq_true q9
                  have p13 : 0 ≤ ((ji10) : Int) := of_decide_eq_true (by first | (with_reducible assumption) | assumption)
                  have q13 : (ji10) < (a0.size : Int) := of_decide_eq_true (by first | (with_reducible assumption) | assumption)
                  have hx13 := bt_at a0 (ji10)
                  replace p13 := eq_true p13
                  replace q13 := eq_true q13
                  have p17 : 0 ≤ ((ji14) : Int) := of_decide_eq_true (by first | (with_reducible assumption) | assumption)
                  have q17 : (ji14) < (a0.size : Int) := of_decide_eq_true (by first | (with_reducible assumption) | assumption)
                  have hx17 := bt_at a0 (ji14)
                  replace p17 := eq_true p17
                  replace q17 := eq_true q17
                  go_enter Try.func29, Try.ntmps29
                  go_wp2
                  repeat (go_quiet (fail); try go_wp2)
                  go_ret
                  exact ⟨by first | rfl | (simp; done) | (simp only [← hji6, ← hji10, ← hji14] <;> (first | rfl | simp)) | (simp [*]; done), by repeat (first | exact Drawn0.refl _ | apply Drawn0.step)⟩
                · rw [if_neg c16] at H
                  exact absurd H (by simp)
              · rw [if_neg c15] at H
                exact absurd H (by simp)
            · rw [if_neg c12] at H
              exact absurd H (by simp)
          · rw [if_neg c11] at H
            exact absurd H (by simp)
        · rw [if_neg c8] at H
          exact absurd H (by simp)
      · rw [if_neg c7] at H
        exact absurd H (by simp)
    · rw [if_neg c4] at H
      exact absurd H (by simp)
  · rw [if_neg c3] at H
    exact absurd H (by simp)
end Go.Proofs.Ytajgpmeilpjadaa.P
