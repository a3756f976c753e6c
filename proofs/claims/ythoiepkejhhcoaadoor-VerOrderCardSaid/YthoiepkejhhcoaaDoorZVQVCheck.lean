/- ver: Check, walked (lines printed by gen_check.py). -/
import Derived.Test.YthoiepkejhhcoaaDoorZVQVPlain
namespace Go.Proofs.YthoiepkejhhcoaaDoor.P
open Go.RowKit Go.Proofs.YthoiepkejhhcoaaDoorW.PrintWords Go.Proofs.YthoiepkejhhcoaaDoorW.PrintLast Go.Proofs.YthoiepkejhhcoaaDoorW.PrintMore
attribute [local go_sem] max2_int min2_int max_two min_two max_three min_three max_four min_four
set_option linter.unusedVariables false
set_option linter.unusedSimpArgs false
theorem old_cells {W V : World} (hb : Below W.heap.size W V) : (∀ g j, g < W.heap.size → V.cell? ⟨g, j, none⟩ = W.cell? ⟨g, j, none⟩) ∧ (∀ g j, g < W.heap.size → V.frozen? ⟨g, j, none⟩ = W.frozen? ⟨g, j, none⟩) :=
  ⟨fun g j h => hb.cell (p := ⟨g, j, none⟩) h, fun g j h => hb.frozen (p := ⟨g, j, none⟩) h⟩
def checkB (a b c : Int) (p q : ByteArray) : Bool := numB a && (numB b && (numB c && (decide (p.size ≤ 30) && (decide (q.size ≤ 30) && ((p.size == 0 || preB p) && (q.size == 0 || bldB q))))))
set_option maxHeartbeats 4000000 in
set_option maxRecDepth 100000 in
theorem check_a (a b c : Int) (p q : ByteArray) (hp : p.size ≤ 1000000) (hq : q.size ≤ 1000000) (w : World) (ha : numB a = false) :
    Calls Tryd.prog 13 #[.agg #[.int .i64 a, .int .i64 b, .int .i64 c, .string p, .string q]] w fun e w' => e = .returned (.bool false) ∧ Below w.heap.size w w' := by
  have HP := Aside0.mk hp
  have HQ := Aside0.mk hq
  have HB := Aside0.mk ((Below.refl w.heap.size w).alloc (Nat.le_refl _) (.cells #[.int .i64 a, .int .i64 b, .int .i64 c, .string p, .string q] 23 (0, 0)))
  clear hp hq
  go_enter Tryd.func13, Tryd.ntmps13
  go_wp2_with (first | (go_at_call 31; (with_reducible refine (num_any _ _).mono ?_); rintro e w1 ⟨rfl, ⟨nd, rfl⟩⟩))
  go_ret
  exact ⟨rfl, by repeat (first | exact HB.out | apply pw_below_drewN)⟩
set_option maxHeartbeats 4000000 in
set_option maxRecDepth 100000 in
theorem check_b (a b c : Int) (p q : ByteArray) (hp : p.size ≤ 1000000) (hq : q.size ≤ 1000000) (w : World) (ha : numB a = true) (hb0 : numB b = false) :
    Calls Tryd.prog 13 #[.agg #[.int .i64 a, .int .i64 b, .int .i64 c, .string p, .string q]] w fun e w' => e = .returned (.bool false) ∧ Below w.heap.size w w' := by
  have HP := Aside0.mk hp
  have HQ := Aside0.mk hq
  have HB := Aside0.mk ((Below.refl w.heap.size w).alloc (Nat.le_refl _) (.cells #[.int .i64 a, .int .i64 b, .int .i64 c, .string p, .string q] 23 (0, 0)))
  clear hp hq
  go_enter Tryd.func13, Tryd.ntmps13
  go_wp2_with (first | (go_at_call 31; (with_reducible refine (num_any _ _).mono ?_); rintro e w1 ⟨rfl, ⟨nd, rfl⟩⟩))
  go_ret
  exact ⟨rfl, by repeat (first | exact HB.out | apply pw_below_drewN)⟩
set_option maxHeartbeats 4000000 in
set_option maxRecDepth 100000 in
theorem check_c (a b c : Int) (p q : ByteArray) (hp : p.size ≤ 1000000) (hq : q.size ≤ 1000000) (w : World) (ha : numB a = true) (hb0 : numB b = true) (hc : numB c = false) :
    Calls Tryd.prog 13 #[.agg #[.int .i64 a, .int .i64 b, .int .i64 c, .string p, .string q]] w fun e w' => e = .returned (.bool false) ∧ Below w.heap.size w w' := by
  have HP := Aside0.mk hp
  have HQ := Aside0.mk hq
  have HB := Aside0.mk ((Below.refl w.heap.size w).alloc (Nat.le_refl _) (.cells #[.int .i64 a, .int .i64 b, .int .i64 c, .string p, .string q] 23 (0, 0)))
  clear hp hq
  go_enter Tryd.func13, Tryd.ntmps13
  go_wp2_with (first | (go_at_call 31; (with_reducible refine (num_any _ _).mono ?_); rintro e w1 ⟨rfl, ⟨nd, rfl⟩⟩))
  go_ret
  exact ⟨rfl, by repeat (first | exact HB.out | apply pw_below_drewN)⟩
set_option maxHeartbeats 4000000 in
set_option maxRecDepth 100000 in
theorem check_p (a b c : Int) (p q : ByteArray) (hp : p.size ≤ 1000000) (hq : q.size ≤ 1000000) (w : World) (ha : numB a = true) (hb0 : numB b = true) (hc : numB c = true) (sp1 : decide (30 < (p.size : Int)) = true) (sp2 : decide (30 < p.size) = true) :
    Calls Tryd.prog 13 #[.agg #[.int .i64 a, .int .i64 b, .int .i64 c, .string p, .string q]] w fun e w' => e = .returned (.bool false) ∧ Below w.heap.size w w' := by
  have HP := Aside0.mk hp
  have HQ := Aside0.mk hq
  have HB := Aside0.mk ((Below.refl w.heap.size w).alloc (Nat.le_refl _) (.cells #[.int .i64 a, .int .i64 b, .int .i64 c, .string p, .string q] 23 (0, 0)))
  clear hp hq
  go_enter Tryd.func13, Tryd.ntmps13
  go_wp2_with (first | (go_at_call 31; (with_reducible refine (num_any _ _).mono ?_); rintro e w1 ⟨rfl, ⟨nd, rfl⟩⟩))
  go_ret
  exact ⟨rfl, by repeat (first | exact HB.out | apply pw_below_drewN)⟩
set_option maxHeartbeats 4000000 in
set_option maxRecDepth 100000 in
theorem check_q (a b c : Int) (p q : ByteArray) (hp : p.size ≤ 1000000) (hq : q.size ≤ 1000000) (w : World) (ha : numB a = true) (hb0 : numB b = true) (hc : numB c = true) (sp1 : decide (30 < (p.size : Int)) = false) (sp2 : decide (30 < p.size) = false) (sq1 : decide (30 < (q.size : Int)) = true) (sq2 : decide (30 < q.size) = true) :
    Calls Tryd.prog 13 #[.agg #[.int .i64 a, .int .i64 b, .int .i64 c, .string p, .string q]] w fun e w' => e = .returned (.bool false) ∧ Below w.heap.size w w' := by
  have HP := Aside0.mk hp
  have HQ := Aside0.mk hq
  have HB := Aside0.mk ((Below.refl w.heap.size w).alloc (Nat.le_refl _) (.cells #[.int .i64 a, .int .i64 b, .int .i64 c, .string p, .string q] 23 (0, 0)))
  clear hp hq
  go_enter Tryd.func13, Tryd.ntmps13
  go_wp2_with (first | (go_at_call 31; (with_reducible refine (num_any _ _).mono ?_); rintro e w1 ⟨rfl, ⟨nd, rfl⟩⟩))
  go_ret
  exact ⟨rfl, by repeat (first | exact HB.out | apply pw_below_drewN)⟩
set_option maxHeartbeats 4000000 in
set_option maxRecDepth 100000 in
theorem check_x (a b c : Int) (p q : ByteArray) (hp : p.size ≤ 1000000) (hq : q.size ≤ 1000000) (w : World) (ha : numB a = true) (hb0 : numB b = true) (hc : numB c = true) (sp1 : decide (30 < (p.size : Int)) = false) (sp2 : decide (30 < p.size) = false) (sq1 : decide (30 < (q.size : Int)) = false) (sq2 : decide (30 < q.size) = false) (ep1 : (p.toList == ([] : List UInt8)) = false) (ep2 : p.toList.isEmpty = false) (hx : preB p = false) :
    Calls Tryd.prog 13 #[.agg #[.int .i64 a, .int .i64 b, .int .i64 c, .string p, .string q]] w fun e w' => e = .returned (.bool false) ∧ Below w.heap.size w w' := by
  have HP := Aside0.mk hp
  have HQ := Aside0.mk hq
  have HB := Aside0.mk ((Below.refl w.heap.size w).alloc (Nat.le_refl _) (.cells #[.int .i64 a, .int .i64 b, .int .i64 c, .string p, .string q] 23 (0, 0)))
  clear hp hq
  go_enter Tryd.func13, Tryd.ntmps13
  go_wp2_with (first | (go_at_call 31; (with_reducible refine (num_any _ _).mono ?_); rintro e w1 ⟨rfl, ⟨nd, rfl⟩⟩) | (go_at_call 32; (with_reducible refine (words_pre p HP.out _).mono ?_); rintro e w1 ⟨rfl, hb⟩; have hcf := old_cells hb; have HB1 := Aside0.mk (below_step (by repeat (first | exact HB.out | apply pw_below_drewN)) hb); clear hb HB; have HB := HB1; clear HB1))
  go_ret
  exact ⟨rfl, by repeat (first | exact HB.out | apply pw_below_drewN)⟩
set_option maxHeartbeats 4000000 in
set_option maxRecDepth 100000 in
theorem check_ee (a b c : Int) (p q : ByteArray) (hp : p.size ≤ 1000000) (hq : q.size ≤ 1000000) (w : World) (ha : numB a = true) (hb0 : numB b = true) (hc : numB c = true) (sp1 : decide (30 < (p.size : Int)) = false) (sp2 : decide (30 < p.size) = false) (sq1 : decide (30 < (q.size : Int)) = false) (sq2 : decide (30 < q.size) = false) (ep1 : (p.toList == ([] : List UInt8)) = true) (ep2 : p.toList.isEmpty = true) (eq1 : (q.toList == ([] : List UInt8)) = true) (eq2 : q.toList.isEmpty = true) :
    Calls Tryd.prog 13 #[.agg #[.int .i64 a, .int .i64 b, .int .i64 c, .string p, .string q]] w fun e w' => e = .returned (.bool true) ∧ Below w.heap.size w w' := by
  have HP := Aside0.mk hp
  have HQ := Aside0.mk hq
  have HB := Aside0.mk ((Below.refl w.heap.size w).alloc (Nat.le_refl _) (.cells #[.int .i64 a, .int .i64 b, .int .i64 c, .string p, .string q] 23 (0, 0)))
  clear hp hq
  go_enter Tryd.func13, Tryd.ntmps13
  go_wp2_with (first | (go_at_call 31; (with_reducible refine (num_any _ _).mono ?_); rintro e w1 ⟨rfl, ⟨nd, rfl⟩⟩))
  go_ret
  exact ⟨rfl, by repeat (first | exact HB.out | apply pw_below_drewN)⟩
set_option maxHeartbeats 4000000 in
set_option maxRecDepth 100000 in
theorem check_ewt (a b c : Int) (p q : ByteArray) (hp : p.size ≤ 1000000) (hq : q.size ≤ 1000000) (w : World) (ha : numB a = true) (hb0 : numB b = true) (hc : numB c = true) (sp1 : decide (30 < (p.size : Int)) = false) (sp2 : decide (30 < p.size) = false) (sq1 : decide (30 < (q.size : Int)) = false) (sq2 : decide (30 < q.size) = false) (ep1 : (p.toList == ([] : List UInt8)) = true) (ep2 : p.toList.isEmpty = true) (eq1 : (q.toList == ([] : List UInt8)) = false) (eq2 : q.toList.isEmpty = false) (hy : bldB q = true) :
    Calls Tryd.prog 13 #[.agg #[.int .i64 a, .int .i64 b, .int .i64 c, .string p, .string q]] w fun e w' => e = .returned (.bool true) ∧ Below w.heap.size w w' := by
  have HP := Aside0.mk hp
  have HQ := Aside0.mk hq
  have HB := Aside0.mk ((Below.refl w.heap.size w).alloc (Nat.le_refl _) (.cells #[.int .i64 a, .int .i64 b, .int .i64 c, .string p, .string q] 23 (0, 0)))
  clear hp hq
  go_enter Tryd.func13, Tryd.ntmps13
  go_wp2_with (first | (go_at_call 31; (with_reducible refine (num_any _ _).mono ?_); rintro e w1 ⟨rfl, ⟨nd, rfl⟩⟩) | (go_at_call 32; (with_reducible refine (words_bld q HQ.out _).mono ?_); rintro e w1 ⟨rfl, hb⟩; have HB1 := Aside0.mk (below_step (by repeat (first | exact HB.out | apply pw_below_drewN)) hb); clear hb HB; have HB := HB1; clear HB1))
  go_ret
  exact ⟨rfl, by repeat (first | exact HB.out | apply pw_below_drewN)⟩
set_option maxHeartbeats 4000000 in
set_option maxRecDepth 100000 in
theorem check_ewf (a b c : Int) (p q : ByteArray) (hp : p.size ≤ 1000000) (hq : q.size ≤ 1000000) (w : World) (ha : numB a = true) (hb0 : numB b = true) (hc : numB c = true) (sp1 : decide (30 < (p.size : Int)) = false) (sp2 : decide (30 < p.size) = false) (sq1 : decide (30 < (q.size : Int)) = false) (sq2 : decide (30 < q.size) = false) (ep1 : (p.toList == ([] : List UInt8)) = true) (ep2 : p.toList.isEmpty = true) (eq1 : (q.toList == ([] : List UInt8)) = false) (eq2 : q.toList.isEmpty = false) (hy : bldB q = false) :
    Calls Tryd.prog 13 #[.agg #[.int .i64 a, .int .i64 b, .int .i64 c, .string p, .string q]] w fun e w' => e = .returned (.bool false) ∧ Below w.heap.size w w' := by
  have HP := Aside0.mk hp
  have HQ := Aside0.mk hq
  have HB := Aside0.mk ((Below.refl w.heap.size w).alloc (Nat.le_refl _) (.cells #[.int .i64 a, .int .i64 b, .int .i64 c, .string p, .string q] 23 (0, 0)))
  clear hp hq
  go_enter Tryd.func13, Tryd.ntmps13
  go_wp2_with (first | (go_at_call 31; (with_reducible refine (num_any _ _).mono ?_); rintro e w1 ⟨rfl, ⟨nd, rfl⟩⟩) | (go_at_call 32; (with_reducible refine (words_bld q HQ.out _).mono ?_); rintro e w1 ⟨rfl, hb⟩; have HB1 := Aside0.mk (below_step (by repeat (first | exact HB.out | apply pw_below_drewN)) hb); clear hb HB; have HB := HB1; clear HB1))
  go_ret
  exact ⟨rfl, by repeat (first | exact HB.out | apply pw_below_drewN)⟩
set_option maxHeartbeats 4000000 in
set_option maxRecDepth 100000 in
theorem check_we (a b c : Int) (p q : ByteArray) (hp : p.size ≤ 1000000) (hq : q.size ≤ 1000000) (w : World) (ha : numB a = true) (hb0 : numB b = true) (hc : numB c = true) (sp1 : decide (30 < (p.size : Int)) = false) (sp2 : decide (30 < p.size) = false) (sq1 : decide (30 < (q.size : Int)) = false) (sq2 : decide (30 < q.size) = false) (ep1 : (p.toList == ([] : List UInt8)) = false) (ep2 : p.toList.isEmpty = false) (hx : preB p = true) (eq1 : (q.toList == ([] : List UInt8)) = true) (eq2 : q.toList.isEmpty = true) :
    Calls Tryd.prog 13 #[.agg #[.int .i64 a, .int .i64 b, .int .i64 c, .string p, .string q]] w fun e w' => e = .returned (.bool true) ∧ Below w.heap.size w w' := by
  have HP := Aside0.mk hp
  have HQ := Aside0.mk hq
  have HB := Aside0.mk ((Below.refl w.heap.size w).alloc (Nat.le_refl _) (.cells #[.int .i64 a, .int .i64 b, .int .i64 c, .string p, .string q] 23 (0, 0)))
  clear hp hq
  go_enter Tryd.func13, Tryd.ntmps13
  go_wp2_with (first | (go_at_call 31; (with_reducible refine (num_any _ _).mono ?_); rintro e w1 ⟨rfl, ⟨nd, rfl⟩⟩) | (go_at_call 32; (with_reducible refine (words_pre p HP.out _).mono ?_); rintro e w1 ⟨rfl, hb⟩; have hcf := old_cells hb; have HB1 := Aside0.mk (below_step (by repeat (first | exact HB.out | apply pw_below_drewN)) hb); clear hb HB; have HB := HB1; clear HB1))
  go_ret
  exact ⟨rfl, by repeat (first | exact HB.out | apply pw_below_drewN)⟩
set_option maxHeartbeats 4000000 in
set_option maxRecDepth 100000 in
theorem check_wwt (a b c : Int) (p q : ByteArray) (hp : p.size ≤ 1000000) (hq : q.size ≤ 1000000) (w : World) (ha : numB a = true) (hb0 : numB b = true) (hc : numB c = true) (sp1 : decide (30 < (p.size : Int)) = false) (sp2 : decide (30 < p.size) = false) (sq1 : decide (30 < (q.size : Int)) = false) (sq2 : decide (30 < q.size) = false) (ep1 : (p.toList == ([] : List UInt8)) = false) (ep2 : p.toList.isEmpty = false) (hx : preB p = true) (eq1 : (q.toList == ([] : List UInt8)) = false) (eq2 : q.toList.isEmpty = false) (hy : bldB q = true) :
    Calls Tryd.prog 13 #[.agg #[.int .i64 a, .int .i64 b, .int .i64 c, .string p, .string q]] w fun e w' => e = .returned (.bool true) ∧ Below w.heap.size w w' := by
  have HP := Aside0.mk hp
  have HQ := Aside0.mk hq
  have HB := Aside0.mk ((Below.refl w.heap.size w).alloc (Nat.le_refl _) (.cells #[.int .i64 a, .int .i64 b, .int .i64 c, .string p, .string q] 23 (0, 0)))
  clear hp hq
  go_enter Tryd.func13, Tryd.ntmps13
  go_wp2_with (first | (go_at_call 31; (with_reducible refine (num_any _ _).mono ?_); rintro e w1 ⟨rfl, ⟨nd, rfl⟩⟩) | (go_at_call 32; (with_reducible refine (words_pre p HP.out _).mono ?_); rintro e w1 ⟨rfl, hb⟩; have hcf := old_cells hb; have HB1 := Aside0.mk (below_step (by repeat (first | exact HB.out | apply pw_below_drewN)) hb); clear hb HB; have HB := HB1; clear HB1) | (go_at_call 32; (with_reducible refine (words_bld q HQ.out _).mono ?_); rintro e w1 ⟨rfl, hb⟩; have HB1 := Aside0.mk (below_step (by repeat (first | exact HB.out | apply pw_below_drewN)) hb); clear hb HB; have HB := HB1; clear HB1))
  go_ret
  exact ⟨rfl, by repeat (first | exact HB.out | apply pw_below_drewN)⟩
set_option maxHeartbeats 4000000 in
set_option maxRecDepth 100000 in
theorem check_wwf (a b c : Int) (p q : ByteArray) (hp : p.size ≤ 1000000) (hq : q.size ≤ 1000000) (w : World) (ha : numB a = true) (hb0 : numB b = true) (hc : numB c = true) (sp1 : decide (30 < (p.size : Int)) = false) (sp2 : decide (30 < p.size) = false) (sq1 : decide (30 < (q.size : Int)) = false) (sq2 : decide (30 < q.size) = false) (ep1 : (p.toList == ([] : List UInt8)) = false) (ep2 : p.toList.isEmpty = false) (hx : preB p = true) (eq1 : (q.toList == ([] : List UInt8)) = false) (eq2 : q.toList.isEmpty = false) (hy : bldB q = false) :
    Calls Tryd.prog 13 #[.agg #[.int .i64 a, .int .i64 b, .int .i64 c, .string p, .string q]] w fun e w' => e = .returned (.bool false) ∧ Below w.heap.size w w' := by
  have HP := Aside0.mk hp
  have HQ := Aside0.mk hq
  have HB := Aside0.mk ((Below.refl w.heap.size w).alloc (Nat.le_refl _) (.cells #[.int .i64 a, .int .i64 b, .int .i64 c, .string p, .string q] 23 (0, 0)))
  clear hp hq
  go_enter Tryd.func13, Tryd.ntmps13
  go_wp2_with (first | (go_at_call 31; (with_reducible refine (num_any _ _).mono ?_); rintro e w1 ⟨rfl, ⟨nd, rfl⟩⟩) | (go_at_call 32; (with_reducible refine (words_pre p HP.out _).mono ?_); rintro e w1 ⟨rfl, hb⟩; have hcf := old_cells hb; have HB1 := Aside0.mk (below_step (by repeat (first | exact HB.out | apply pw_below_drewN)) hb); clear hb HB; have HB := HB1; clear HB1) | (go_at_call 32; (with_reducible refine (words_bld q HQ.out _).mono ?_); rintro e w1 ⟨rfl, hb⟩; have HB1 := Aside0.mk (below_step (by repeat (first | exact HB.out | apply pw_below_drewN)) hb); clear hb HB; have HB := HB1; clear HB1))
  go_ret
  exact ⟨rfl, by repeat (first | exact HB.out | apply pw_below_drewN)⟩
theorem nil_facts {x : ByteArray} (h : x.size = 0) : (x.toList == ([] : List UInt8)) = true ∧ x.toList.isEmpty = true := by
  have := (toList_nil x).2 h
  rw [this]; exact ⟨rfl, rfl⟩
theorem some_facts {x : ByteArray} (h : x.size ≠ 0) : (x.toList == ([] : List UInt8)) = false ∧ x.toList.isEmpty = false := by
  have : x.toList ≠ [] := fun e => h ((toList_nil x).1 e)
  exact ⟨beq_eq_false_iff_ne.2 this, by cases hh : x.toList with
    | nil => exact absurd hh this
    | cons => rfl⟩
theorem check_any (a b c : Int) (p q : ByteArray) (hp : p.size ≤ 1000000) (hq : q.size ≤ 1000000) (w : World) :
    Calls Tryd.prog 13 #[.agg #[.int .i64 a, .int .i64 b, .int .i64 c, .string p, .string q]] w fun e w' => e = .returned (.bool (checkB a b c p q)) ∧ Below w.heap.size w w' := by
  unfold checkB
  cases ha : numB a with
  | false => exact check_a a b c p q hp hq w ha
  | true =>
    cases hb : numB b with
    | false => exact check_b a b c p q hp hq w ha hb
    | true =>
      cases hc : numB c with
      | false => exact check_c a b c p q hp hq w ha hb hc
      | true =>
        by_cases sp : p.size ≤ 30
        · have sp1 : decide (30 < (p.size : Int)) = false := decide_eq_false (by omega)
          have sp2 : decide (30 < p.size) = false := decide_eq_false (by omega)
          rw [decide_eq_true sp]
          by_cases sq : q.size ≤ 30
          · have sq1 : decide (30 < (q.size : Int)) = false := decide_eq_false (by omega)
            have sq2 : decide (30 < q.size) = false := decide_eq_false (by omega)
            rw [decide_eq_true sq]
            by_cases ep : p.size = 0
            · rw [beq_iff_eq.2 ep]
              by_cases eq : q.size = 0
              · rw [beq_iff_eq.2 eq]
                exact check_ee a b c p q hp hq w ha hb hc sp1 sp2 sq1 sq2 (nil_facts ep).1 (nil_facts ep).2 (nil_facts eq).1 (nil_facts eq).2
              · rw [beq_eq_false_iff_ne.2 eq]
                cases hy : bldB q with
                | true => exact check_ewt a b c p q hp hq w ha hb hc sp1 sp2 sq1 sq2 (nil_facts ep).1 (nil_facts ep).2 (some_facts eq).1 (some_facts eq).2 hy
                | false => exact check_ewf a b c p q hp hq w ha hb hc sp1 sp2 sq1 sq2 (nil_facts ep).1 (nil_facts ep).2 (some_facts eq).1 (some_facts eq).2 hy
            · rw [beq_eq_false_iff_ne.2 ep]
              cases hx : preB p with
              | false => exact check_x a b c p q hp hq w ha hb hc sp1 sp2 sq1 sq2 (some_facts ep).1 (some_facts ep).2 hx
              | true =>
                by_cases eq : q.size = 0
                · rw [beq_iff_eq.2 eq]
                  exact check_we a b c p q hp hq w ha hb hc sp1 sp2 sq1 sq2 (some_facts ep).1 (some_facts ep).2 hx (nil_facts eq).1 (nil_facts eq).2
                · rw [beq_eq_false_iff_ne.2 eq]
                  cases hy : bldB q with
                  | true => exact check_wwt a b c p q hp hq w ha hb hc sp1 sp2 sq1 sq2 (some_facts ep).1 (some_facts ep).2 hx (some_facts eq).1 (some_facts eq).2 hy
                  | false => exact check_wwf a b c p q hp hq w ha hb hc sp1 sp2 sq1 sq2 (some_facts ep).1 (some_facts ep).2 hx (some_facts eq).1 (some_facts eq).2 hy
          · rw [decide_eq_false sq]
            exact check_q a b c p q hp hq w ha hb hc sp1 sp2 (decide_eq_true (by omega)) (decide_eq_true (by omega))
        · rw [decide_eq_false sp]
          exact check_p a b c p q hp hq w ha hb hc (decide_eq_true (by omega)) (decide_eq_true (by omega))
def ver_Check.f (a b c : Int) (p q : ByteArray) : Option Bool := if p.size ≤ 1000000 ∧ q.size ≤ 1000000 then some (checkB a b c p q) else none
theorem ver_Check.calls (a0_0 a0_1 a0_2 : Int) (a0_3 a0_4 : ByteArray) (r : Bool) (w : World) (h : ver_Check.f a0_0 a0_1 a0_2 a0_3 a0_4 = some r) :
    Calls Tryd.prog 13 #[.agg #[.int .i64 a0_0, .int .i64 a0_1, .int .i64 a0_2, .string a0_3, .string a0_4]] w fun e w' => e = .returned (.bool r) ∧ Below w.heap.size w w' := by
  unfold ver_Check.f at h
  by_cases c : a0_3.size ≤ 1000000 ∧ a0_4.size ≤ 1000000
  · rw [if_pos c] at h
    obtain rfl := Option.some.inj h
    exact check_any _ _ _ _ _ c.1 c.2 w
  · rw [if_neg c] at h; cases h
end Go.Proofs.YthoiepkejhhcoaaDoor.P
