/- Printed functions, merged. -/
import Derived.Test.YtnhhbmekjoanbaaDoorZFCM0
import Derived.Test.YtnhhbmekjoanbaaDoorZFCAl
namespace Go.Proofs.YtnhhbmekjoanbaaDoor.P
open Go.RowKit Go.Proofs.YtnhhbmekjoanbaaDoorW.PrintWords Go.Proofs.YtnhhbmekjoanbaaDoorW.PrintLast Go.Proofs.YtnhhbmekjoanbaaDoorW.PrintMore
attribute [local go_sem] max2_int min2_int max_two min_two max_three min_three max_four min_four   -- for this text's walks alone
set_option linter.unusedVariables false
set_option linter.unusedSimpArgs false
def armadaref05_one.j0 : Nat → ByteArray → Bool → Option (Bool × ByteArray × ByteArray × Int)
 | 0, _, _ => none
 | k + 1, x0, x23 => if x23 = true then (some (false, (⟨#[]⟩ : ByteArray), (⟨#[]⟩ : ByteArray), 0)) else (if 1 < (x0.size : Int) then (if 0 < (x0.size : Int) then (if 2 ≤ (wrap64 (2 + (wrap64 (bt x0 1)))) then (if (wrap64 (2 + (wrap64 (bt x0 1)))) ≤ (x0.size : Int) then (if (bt x0 0) = 1 then (some (((bt x0 0) == 1), x0.extract 2 ((wrap64 (2 + (wrap64 (bt x0 1)))) : Int).toNat, (⟨#[]⟩ : ByteArray), wrap64 (2 + (wrap64 (bt x0 1))))) else (if (wrap64 ((x0.size : Int) - (wrap64 (2 + (wrap64 (bt x0 1)))))) < 2 then (some (false, (⟨#[]⟩ : ByteArray), (⟨#[]⟩ : ByteArray), 0)) else (if 0 ≤ (wrap64 (2 + (wrap64 (bt x0 1)))) then (if (wrap64 (2 + (wrap64 (bt x0 1)))) < (x0.size : Int) then (if 0 ≤ (wrap64 ((wrap64 (2 + (wrap64 (bt x0 1)))) + 1)) then (if (wrap64 ((wrap64 (2 + (wrap64 (bt x0 1)))) + 1)) < (x0.size : Int) then (if (wrap64 ((wrap64 ((x0.size : Int) - (wrap64 (2 + (wrap64 (bt x0 1)))))) - 2)) < (wrap64 ((wrap64 (256 * (wrap64 (bt x0 (wrap64 (2 + (wrap64 (bt x0 1)))))))) + (wrap64 (bt x0 (wrap64 ((wrap64 (2 + (wrap64 (bt x0 1)))) + 1)))))) then (some (false, (⟨#[]⟩ : ByteArray), (⟨#[]⟩ : ByteArray), 0)) else (if 0 ≤ (wrap64 ((wrap64 (2 + (wrap64 (bt x0 1)))) + 2)) then (if (wrap64 ((wrap64 (2 + (wrap64 (bt x0 1)))) + 2)) ≤ (wrap64 ((wrap64 ((wrap64 (2 + (wrap64 (bt x0 1)))) + 2)) + (wrap64 ((wrap64 (256 * (wrap64 (bt x0 (wrap64 (2 + (wrap64 (bt x0 1)))))))) + (wrap64 (bt x0 (wrap64 ((wrap64 (2 + (wrap64 (bt x0 1)))) + 1)))))))) then (if (wrap64 ((wrap64 ((wrap64 (2 + (wrap64 (bt x0 1)))) + 2)) + (wrap64 ((wrap64 (256 * (wrap64 (bt x0 (wrap64 (2 + (wrap64 (bt x0 1)))))))) + (wrap64 (bt x0 (wrap64 ((wrap64 (2 + (wrap64 (bt x0 1)))) + 1)))))))) ≤ (x0.size : Int) then (some (((bt x0 0) == 1), x0.extract 2 ((wrap64 (2 + (wrap64 (bt x0 1)))) : Int).toNat, x0.extract ((wrap64 ((wrap64 (2 + (wrap64 (bt x0 1)))) + 2)) : Int).toNat ((wrap64 ((wrap64 ((wrap64 (2 + (wrap64 (bt x0 1)))) + 2)) + (wrap64 ((wrap64 (256 * (wrap64 (bt x0 (wrap64 (2 + (wrap64 (bt x0 1)))))))) + (wrap64 (bt x0 (wrap64 ((wrap64 (2 + (wrap64 (bt x0 1)))) + 1)))))))) : Int).toNat, wrap64 ((wrap64 ((wrap64 (2 + (wrap64 (bt x0 1)))) + 2)) + (wrap64 ((wrap64 (256 * (wrap64 (bt x0 (wrap64 (2 + (wrap64 (bt x0 1)))))))) + (wrap64 (bt x0 (wrap64 ((wrap64 (2 + (wrap64 (bt x0 1)))) + 1))))))))) else (none)) else (none)) else (none))) else (none)) else (none)) else (none)) else (none)))) else (none)) else (none)) else (none)) else (none))
def armadaref05_one.f (k : Nat) (a0 : ByteArray) : Option (Bool × ByteArray × ByteArray × Int) := if (a0.size : Int) < 2 then (armadaref05_one.j0 k a0 true) else (if 1 < (a0.size : Int) then (if (wrap64 ((a0.size : Int) - 2)) < (wrap64 (bt a0 1)) then (armadaref05_one.j0 k a0 true) else (if 0 < (a0.size : Int) then (armadaref05_one.j0 k a0 (decide ((bt a0 0) > 1))) else (none))) else (none))
theorem armadaref05_one.mono_l : ∀ k, (∀ y0 y1, LeO (armadaref05_one.j0 k y0 y1) (armadaref05_one.j0 (k + 1) y0 y1))
 | 0 => fun _ _ r h => by simp [armadaref05_one.j0] at h
 | k + 1 => by
  have ih0 := armadaref05_one.mono_l k
  ·intro y0 y1
   unfold armadaref05_one.j0
   repeat' first
   | (with_reducible exact ih0 _ _)
   | (with_reducible exact LeO.refl _)
   | (with_reducible exact LeO.none _)
   | (with_reducible refine LeO.ite ?_ ?_)
   | (with_reducible refine LeO.bind ?_ (fun _ => ?_))
   | exact ih0 _ _
   | exact LeO.none _
   | refine LeO.ite ?_ ?_
   | refine LeO.bind ?_ (fun _ => ?_)
theorem armadaref05_one.mono : ∀ a0 k, LeO (armadaref05_one.f k a0) (armadaref05_one.f (k + 1) a0) := by
 intro a0 k
 have ih0 := armadaref05_one.mono_l k
 unfold armadaref05_one.f
 repeat' first
   | (with_reducible exact ih0 _ _)
   | (with_reducible exact LeO.refl _)
   | (with_reducible exact LeO.none _)
   | (with_reducible refine LeO.ite ?_ ?_)
   | (with_reducible refine LeO.bind ?_ (fun _ => ?_))
   | exact ih0 _ _
   | exact LeO.none _
   | refine LeO.ite ?_ ?_
   | refine LeO.bind ?_ (fun _ => ?_)
def armadaref05_one.T4 : Bool × List (List Nat × List Nat) := (true, [([], []), ([0], [0]), ([1], [1]), ([], []), ([], []), ([3, 4], [3, 4]), ([2, 5], [2, 5]), ([], []), ([7, 6, 0, 1, 2, 3, 4, 5, 6, 7], [6, 7])])
def armadaref05_one.B4 : List Nat := [0, 1, 3, 0, 0, 24, 63, 0, 255]
theorem armadaref05_one.tab4 : rtab .any (opsOf Tryd.f50 4) = armadaref05_one.T4 := by kernel_rfl
theorem armadaref05_one.bits4 : waitsOk armadaref05_one.T4.2 armadaref05_one.B4 = true := by kernel_rfl
def armadaref05_one.T9 : Bool × List (List Nat × List Nat) := (true, [([], []), ([], []), ([0, 1], [0, 1]), ([2], [2]), ([3], [3]), ([], []), ([], []), ([6], [6]), ([5, 7], [5, 7]), ([8], [8]), ([4, 9], [4, 9]), ([10, 0, 1, 2, 3, 4, 5, 6, 7, 8, 9, 10], [10])])
def armadaref05_one.B9 : List Nat := [0, 0, 3, 7, 15, 0, 0, 64, 224, 480, 1023, 2047]
theorem armadaref05_one.tab9 : rtab .any (opsOf Tryd.f50 9) = armadaref05_one.T9 := by kernel_rfl
theorem armadaref05_one.bits9 : waitsOk armadaref05_one.T9.2 armadaref05_one.B9 = true := by kernel_rfl
set_option maxHeartbeats 8000000 in
set_option maxRecDepth 100000 in
theorem armadaref05_one.calls (k : Nat) (a0 : ByteArray) (r1 : Bool) (r2 : ByteArray) (r3 : ByteArray) (r4 : Int) (w : World) (h : armadaref05_one.f k a0 = some (r1, r2, r3, r4)) :
  Calls Tryd.prog 50 #[.string a0] w fun e w' => e = .returned (.tuple #[.agg #[.bool r1, .string r2, .string r3], .int .i64 r4]) ∧ Below w.heap.size w w' := by
 have hu45 := Tryd.underlying45
 have HB := Aside0.mk (Below.refl w.heap.size w)
 have H := h
 unfold armadaref05_one.f at H
 clear h
 have HC2 := Aside0.mk H
 clear H
 go_enter Tryd.func50, Tryd.ntmps50
 go_upto_region 1 with (first | ((with_reducible refine gate_dst (N := 2) rfl ?_); (try (refine gate_guard (by rfl) ?_; dsimp only)); refine bE (N := 2) (cs := #[.bool false, .string (⟨#[]⟩ : ByteArray), .string (⟨#[]⟩ : ByteArray)]) (t := 45) ?_; intro gb318 hg w3 hbox hb; have n0_ := wH hb; have n1_ := Aside0.mk (hbox); have n2_ := Aside0.mk ((qG hg)); have n3_ := Aside0.mk ((qG hg)); clear HB; have HB := n0_; have BK318 := n1_; have GE318 := n3_; clear n0_ n1_ n2_ n3_; clear hb hbox hg))
 (try simp only [Act.put, List.setIfInBounds_toArray, List.set_cons_zero, List.set_cons_succ])
 go_cut [23] (fun v23 wc => ∃ (kq : Nat) (x23_1 : Bool), v23 = .bool x23_1 ∧ Aside0 (armadaref05_one.j0 kq a0 x23_1 = some (r1, r2, r3, r4)) ∧ Aside0 (kq ≤ k) ∧ Aside0 (wc.heap[gb318]? = some (.cells #[.bool false, .string (⟨#[]⟩ : ByteArray), .string (⟨#[]⟩ : ByteArray)] 45 (0, 0))) ∧ Aside0 (Below w.heap.size w wc))
 case first =>
  have H := HC2.out
  clear HC2
  by_cases c4 : (a0.size : Int) < 2
  ·rw [if_pos c4] at H
   have c4b0 : decide ((a0.size : Int) < 2) = true := decide_eq_true c4
   have c4b1 : decide (a0.size < 2) = true := decide_eq_true (by omega)
   clear c4
   (first | rw [c4b0] | (simp only [i64_w, i32_w]; rw [c4b0]) | skip)
   have H' := Aside0.mk H
   clear H
   go_wp2
   go_meet
   case rel => exact ⟨_, (true), eY, H', ⟨by first | omega | exact Nat.le_refl _⟩, ⟨qB BK318⟩, ⟨qH⟩⟩
  ·rw [if_neg c4] at H
   have c4b0 : decide ((a0.size : Int) < 2) = false := decide_eq_false c4
   have c4b1 : decide (a0.size < 2) = false := decide_eq_false (by omega)
   clear c4
   (first | rw [c4b0] | (simp only [i64_w, i32_w]; rw [c4b0]) | skip)
   by_cases c5 : 1 < (a0.size : Int)
   ·rw [if_pos c5] at H
    have c5b0 : decide (1 < (a0.size : Int)) = true := decide_eq_true c5
    have c5b1 : decide (1 < a0.size) = true := decide_eq_true (by omega)
    clear c5
    by_cases c7 : (wrap64 ((a0.size : Int) - 2)) < (wrap64 (bt a0 1))
    ·rw [if_pos c7] at H
     have c7b0 : decide ((wrap64 ((a0.size : Int) - 2)) < (wrap64 (bt a0 1))) = true := decide_eq_true c7
     clear c7
     have H' := Aside0.mk H
     clear H
     have p6 : 0 ≤ (1 : Int) := (by omega)
     have q6 : 1 < a0.size := (by have : (1 : Int) < (a0.size : Int) := of_decide_eq_true aS; omega)
     have hx6 : ∀ h : 1 < a0.size, ((a0[1]'h).toNat : Int) = bt a0 1 := bt_at a0 1
     clear p6
     have qi6 : (1 < (a0.size : Int)) = True := eq_true (of_decide_eq_true aS)
     replace q6 := eq_true q6
     go_wp2
     go_meet
     case rel => exact ⟨_, (true), eY, H', ⟨by first | omega | exact Nat.le_refl _⟩, ⟨qB BK318⟩, ⟨qH⟩⟩
    ·rw [if_neg c7] at H
     have c7b0 : decide ((wrap64 ((a0.size : Int) - 2)) < (wrap64 (bt a0 1))) = false := decide_eq_false c7
     clear c7
     by_cases c8 : 0 < (a0.size : Int)
     ·rw [if_pos c8] at H
      have c8b0 : decide (0 < (a0.size : Int)) = true := decide_eq_true c8
      have c8b1 : decide (0 < a0.size) = true := decide_eq_true (by omega)
      clear c8
      have H' := Aside0.mk H
      clear H
      have p6 : 0 ≤ (1 : Int) := (by omega)
      have q6 : 1 < a0.size := (by have : (1 : Int) < (a0.size : Int) := of_decide_eq_true aS; omega)
      have hx6 : ∀ h : 1 < a0.size, ((a0[1]'h).toNat : Int) = bt a0 1 := bt_at a0 1
      clear p6
      have qi6 : (1 < (a0.size : Int)) = True := eq_true (of_decide_eq_true aS)
      replace q6 := eq_true q6
      have p9 : 0 ≤ (0 : Int) := (by omega)
      have q9 : 0 < a0.size := (by have : (0 : Int) < (a0.size : Int) := of_decide_eq_true aS; omega)
      have hx9 : ∀ h : 0 < a0.size, ((a0[0]'h).toNat : Int) = bt a0 0 := bt_at a0 0
      clear p9
      have qi9 : (0 < (a0.size : Int)) = True := eq_true (of_decide_eq_true aS)
      replace q9 := eq_true q9
      go_wp2
      go_meet
      case rel => exact ⟨_, (decide ((bt a0 0) > 1)), eY, H', ⟨by first | omega | exact Nat.le_refl _⟩, ⟨qB BK318⟩, ⟨qH⟩⟩
     ·rw [if_neg c8] at H
      exact absurd H (by simp)
   ·rw [if_neg c5] at H
    exact absurd H (by simp)
 case rest =>
  clear HC2
  (try clear p2); (try clear p6); (try clear q6); (try clear qi6); (try clear p9); (try clear q9); (try clear qi9); (try clear p6); (try clear p9); (try clear q6)
  (try clear q9)
  obtain ⟨kq, x23_1, rfl, HA, HJ1, BK318, HB⟩ := hcut
  cases kq with
  | zero => exact absurd HA.out (by simp [armadaref05_one.j0])
  | succ kj1 =>
   have H := HA.out
   clear HA
   simp only [armadaref05_one.j0] at H
   by_cases c10 : x23_1 = true
   ·subst c10
    rw [if_pos rfl] at H
    simp only [Option.some.injEq, Prod.mk.injEq] at H
    obtain ⟨rfl, rfl, rfl, rfl⟩ := H
    obtain ⟨hcz11_0, hcz11_1, hcz11_2, hfz11_0, hfz11_1, hfz11_2⟩ := e3_ BK318
    go_wp2
    refine bodyPost_ret (results_ct rfl _ _ gb318 45 #[.bool false, .string (⟨#[]⟩ : ByteArray), .string (⟨#[]⟩ : ByteArray)] (0, 0) _ rfl (by (with_reducible repeat (first | apply xN_ | apply xD_ | apply xA_)); refine blk_put (cs := #[.bool false, .string (⟨#[]⟩ : ByteArray), .string (⟨#[]⟩ : ByteArray)]) ?_ 2 _ rfl; refine blk_put (cs := #[.bool false, .string (⟨#[]⟩ : ByteArray), .string (⟨#[]⟩ : ByteArray)]) ?_ 1 _ rfl; refine blk_put (cs := #[.bool false, .string (⟨#[]⟩ : ByteArray), .string (⟨#[]⟩ : ByteArray)]) ?_ 0 _ rfl; (with_reducible repeat (first | apply xN_ | apply xD_ | apply xA_)); exact BK318.out) Tryd.underlying45 rfl (by kernel_rfl)) rfl ?_
    exact ⟨eX, qH⟩
   ·replace c10 := Bool.eq_false_iff.mpr c10
    subst c10
    rw [if_neg nF_] at H
    by_cases c12 : 1 < (a0.size : Int)
    ·rw [if_pos c12] at H
     have c12b0 : decide (1 < (a0.size : Int)) = true := decide_eq_true c12
     have c12b1 : decide (1 < a0.size) = true := decide_eq_true (by omega)
     clear c12
     by_cases c14 : 0 < (a0.size : Int)
     ·rw [if_pos c14] at H
      have c14b0 : decide (0 < (a0.size : Int)) = true := decide_eq_true c14
      have c14b1 : decide (0 < a0.size) = true := decide_eq_true (by omega)
      clear c14
      by_cases c16 : 2 ≤ (wrap64 (2 + (wrap64 (bt a0 1))))
      ·rw [if_pos c16] at H
       have c16b0 := eq_true c16
       have c16b1 : decide (2 ≤ (wrap64 (2 + (wrap64 (bt a0 1))))) = true := decide_eq_true c16
       by_cases c17 : (wrap64 (2 + (wrap64 (bt a0 1)))) ≤ (a0.size : Int)
       ·rw [if_pos c17] at H
        have c17b0 := eq_true c17
        have c17b1 : decide ((wrap64 (2 + (wrap64 (bt a0 1)))) ≤ (a0.size : Int)) = true := decide_eq_true c17
        by_cases c18 : (bt a0 0) = 1
        ·rw [if_pos c18] at H
         have c18b0 : ((bt a0 0) == 1) = true := beq_iff_eq.mpr c18
         have c18b1 : ((bt a0 0) != 1) = false := bne_eq_false_iff_eq.mpr c18
         clear c18
         simp only [Option.some.injEq, Prod.mk.injEq] at H
         obtain ⟨rfl, rfl, rfl, rfl⟩ := H
         have p13 : 0 ≤ (1 : Int) := (by omega)
         have q13 : 1 < a0.size := (by have : (1 : Int) < (a0.size : Int) := of_decide_eq_true aS; omega)
         have hx13 : ∀ h : 1 < a0.size, ((a0[1]'h).toNat : Int) = bt a0 1 := bt_at a0 1
         clear p13
         have qi13 : (1 < (a0.size : Int)) = True := eq_true (of_decide_eq_true aS)
         replace q13 := eq_true q13
         try go_wp2
         have n0_ := Aside0.mk (xD_ BK318.out)
         have n1_ := Aside0.mk (yD_ HB.out)
         clear BK318
         clear HB
         have BK318 := n0_
         have HB := n1_
         clear n0_ n1_
         have p15 : 0 ≤ (0 : Int) := (by omega)
         have q15 : 0 < a0.size := (by have : (0 : Int) < (a0.size : Int) := of_decide_eq_true aS; omega)
         have hx15 : ∀ h : 0 < a0.size, ((a0[0]'h).toNat : Int) = bt a0 0 := bt_at a0 0
         clear p15
         have qi15 : (0 < (a0.size : Int)) = True := eq_true (of_decide_eq_true aS)
         replace q15 := eq_true q15
         refine start_ (n := 9) (S := fun w' => True) (ds := []) #[F_,F_,F_,F_,F_,F_,F_,F_,F_] (by kernel_rfl) rfl rfl trivial (fun hHeld => ?_); refine with_tabW armadaref05_one.tab4 armadaref05_one.bits4 (fun HT_ HW_ => ?_)
         generalize wc.drew = w19 at BK318 HB hHeld ⊢
         refine pU 0 (some 29) #[T_,F_,F_,F_,F_,F_,F_,F_,F_] HT_ ?_
         refine pU 3 (some 32) #[T_,F_,F_,T_,F_,F_,F_,F_,F_] HT_ ?_
         refine pU 4 (some 33) #[T_,F_,F_,T_,T_,F_,F_,F_,F_] HT_ ?_
         refine pU 5 (some 34) #[T_,F_,F_,T_,T_,T_,F_,F_,F_] HT_ ?_
         refine take_ (i := 1) (N := some 30) (v := ?_) (a' := ?_) #[T_,T_,F_,T_,T_,T_,F_,F_,F_] rfl rfl (take_ofW HT_.out HW_.out (by kernel_rfl)) (fun _ _ _ h => h) (Or.inl ⟨by rfl, ?_⟩) hHeld ?_ ?_
         rotate_left
         ·intro w' _
          go_simp
          with_reducible rfl
         rotate_left
         ·simp only [Act.put, List.setIfInBounds_toArray, List.set_cons_zero, List.set_cons_succ, i64_w, i32_w]
          rfl
         refine pU 2 (some 31) #[T_,T_,T_,T_,T_,T_,F_,F_,F_] HT_ ?_
         refine pU 6 (some 35) #[T_,T_,T_,T_,T_,T_,T_,F_,F_] HT_ ?_
         refine oN 7 (some 5) #[T_,T_,T_,T_,T_,T_,T_,T_,F_] HT_ (fun K hK => ?_)
         refine box_step ?hg (N := 5) ?hd (cs := #[.bool false, .string (⟨#[]⟩ : ByteArray), .string (⟨#[]⟩ : ByteArray)]) (t := 45) ?hr ?_; (case hd => rfl); (case hg => rfl); (case hr => first | (go_simp; done) | (go_simp; rfl))
         intro gb319 hg w20 hbox hb
         have n0_ := wB BK318 hb
         have n1_ := wH hb
         have n2_ := Aside0.mk (hbox)
         have n3_ := Aside0.mk ((qG hg))
         have n4_ := Aside0.mk ((qG hg))
         have n5_ := Aside0.mk ((by rw [hg]; exact Nat.ne_of_lt (blk_lt (g := gb318) (o := .cells #[.bool false, .string (⟨#[]⟩ : ByteArray), .string (⟨#[]⟩ : ByteArray)] 45 (0, 0)) (qB BK318)) : gb318 ≠ gb319))
         have n6_ := Aside0.mk ((by rw [hg]; exact Nat.ne_of_gt (blk_lt (g := gb318) (o := .cells #[.bool false, .string (⟨#[]⟩ : ByteArray), .string (⟨#[]⟩ : ByteArray)] 45 (0, 0)) (qB BK318)) : gb319 ≠ gb318))
         clear BK318
         clear HB
         have BK318 := n0_
         have HB := n1_
         have BK319 := n2_
         have GE319 := n4_
         have NB318_319 := n5_
         have NB319_318 := n6_
         clear n0_ n1_ n2_ n3_ n4_ n5_ n6_
         clear hb hbox hg
         refine hK.out _ _ trivial (fun hHeld => ?_)
         clear hK K
         refine nS (some 5) ?_
         refine oN 8 (none) #[T_,T_,T_,T_,T_,T_,T_,T_,T_] HT_ (fun K hK => ?_)
         have hs21 : w20.cell? ⟨gb319, 0, none⟩ = some (.bool false) := c0_ BK319
         have hfs21 := xF_ BK319.out 0
         have hns21_0 := NB318_319.out
         have hms21_0 := NB319_318.out
         have hs22 : w20.cell? ⟨gb319, 1, none⟩ = some (.string (⟨#[]⟩ : ByteArray)) := c1_ BK319
         have hfs22 := xF_ BK319.out 1
         have hns22_0 := NB318_319.out
         have hms22_0 := NB319_318.out
         have hs23 : w20.cell? ⟨gb319, 2, none⟩ = some (.string (⟨#[]⟩ : ByteArray)) := c2_ BK319
         have hfs23 := xF_ BK319.out 2
         have hns23_0 := NB318_319.out
         have hms23_0 := NB319_318.out
         refine skip_ (w1 := ?_) (by rfl) rfl ?_ ?_
         rotate_left
         ·go_simp
          rfl
         refine hK.out _ _ trivial (fun hHeld => ?_)
         clear hK K
         refine done_ (done_of HT_.out (by kernel_rfl)) ?_
         obtain ⟨hnb24, hnc24⟩ := nn_ NB319_318
         obtain ⟨hcz25_0, hcz25_1, hcz25_2, hfz25_0, hfz25_1, hfz25_2⟩ := e3_ BK319
         obtain ⟨hcz26_0, hcz26_1, hcz26_2, hfz26_0, hfz26_1, hfz26_2⟩ := e3_ BK318
         try go_wp2
         refine bodyPost_ret (results_ct rfl _ _ gb318 45 #[.bool true, .string (a0.extract 2 ((wrap64 (2 + (wrap64 (bt a0 1)))) : Int).toNat), .string (⟨#[]⟩ : ByteArray)] (0, 0) _ rfl (by (with_reducible repeat (first | apply xN_ | apply xD_ | apply xA_)); refine blk_put (cs := #[.bool true, .string (a0.extract 2 ((wrap64 (2 + (wrap64 (bt a0 1)))) : Int).toNat), .string (⟨#[]⟩ : ByteArray)]) ?_ 2 _ rfl; refine blk_put (cs := #[.bool true, .string (⟨#[]⟩ : ByteArray), .string (⟨#[]⟩ : ByteArray)]) ?_ 1 _ rfl; refine blk_put (cs := #[.bool false, .string (⟨#[]⟩ : ByteArray), .string (⟨#[]⟩ : ByteArray)]) ?_ 0 _ rfl; refine xR_ ?_ NB318_319.out _; refine xR_ ?_ NB318_319.out _; refine xR_ ?_ NB318_319.out _; (with_reducible repeat (first | apply xN_ | apply xD_ | apply xA_)); exact BK318.out) Tryd.underlying45 rfl (by kernel_rfl)) rfl ?_
         exact ⟨eX, qH⟩
        ·rw [if_neg c18] at H
         have c18b0 : ((bt a0 0) == 1) = false := beq_eq_false_iff_ne.mpr c18
         have c18b1 : ((bt a0 0) != 1) = true := bne_iff_ne.mpr c18
         by_cases c27 : (wrap64 ((a0.size : Int) - (wrap64 (2 + (wrap64 (bt a0 1)))))) < 2
         ·rw [if_pos c27] at H
          have c27b0 : decide ((wrap64 ((a0.size : Int) - (wrap64 (2 + (wrap64 (bt a0 1)))))) < 2) = true := decide_eq_true c27
          clear c27
          simp only [Option.some.injEq, Prod.mk.injEq] at H
          obtain ⟨rfl, rfl, rfl, rfl⟩ := H
          have p13 : 0 ≤ (1 : Int) := (by omega)
          have q13 : 1 < a0.size := (by have : (1 : Int) < (a0.size : Int) := of_decide_eq_true aS; omega)
          have hx13 : ∀ h : 1 < a0.size, ((a0[1]'h).toNat : Int) = bt a0 1 := bt_at a0 1
          clear p13
          have qi13 : (1 < (a0.size : Int)) = True := eq_true (of_decide_eq_true aS)
          replace q13 := eq_true q13
          try go_wp2
          have n0_ := Aside0.mk (xD_ BK318.out)
          have n1_ := Aside0.mk (yD_ HB.out)
          clear BK318
          clear HB
          have BK318 := n0_
          have HB := n1_
          clear n0_ n1_
          have p15 : 0 ≤ (0 : Int) := (by omega)
          have q15 : 0 < a0.size := (by have : (0 : Int) < (a0.size : Int) := of_decide_eq_true aS; omega)
          have hx15 : ∀ h : 0 < a0.size, ((a0[0]'h).toNat : Int) = bt a0 0 := bt_at a0 0
          clear p15
          have qi15 : (0 < (a0.size : Int)) = True := eq_true (of_decide_eq_true aS)
          replace q15 := eq_true q15
          refine start_ (n := 9) (S := fun w' => True) (ds := []) #[F_,F_,F_,F_,F_,F_,F_,F_,F_] (by kernel_rfl) rfl rfl trivial (fun hHeld => ?_); refine with_tabW armadaref05_one.tab4 armadaref05_one.bits4 (fun HT_ HW_ => ?_)
          generalize wc.drew = w28 at BK318 HB hHeld ⊢
          refine pU 0 (some 29) #[T_,F_,F_,F_,F_,F_,F_,F_,F_] HT_ ?_
          refine pU 3 (some 32) #[T_,F_,F_,T_,F_,F_,F_,F_,F_] HT_ ?_
          refine pU 4 (some 33) #[T_,F_,F_,T_,T_,F_,F_,F_,F_] HT_ ?_
          refine pU 5 (some 34) #[T_,F_,F_,T_,T_,T_,F_,F_,F_] HT_ ?_
          refine take_ (i := 1) (N := some 30) (v := ?_) (a' := ?_) #[T_,T_,F_,T_,T_,T_,F_,F_,F_] rfl rfl (take_ofW HT_.out HW_.out (by kernel_rfl)) (fun _ _ _ h => h) (Or.inl ⟨by rfl, ?_⟩) hHeld ?_ ?_
          rotate_left
          ·intro w' _
           go_simp
           with_reducible rfl
          rotate_left
          ·simp only [Act.put, List.setIfInBounds_toArray, List.set_cons_zero, List.set_cons_succ, i64_w, i32_w]
           rfl
          refine pU 2 (some 31) #[T_,T_,T_,T_,T_,T_,F_,F_,F_] HT_ ?_
          refine pU 6 (some 35) #[T_,T_,T_,T_,T_,T_,T_,F_,F_] HT_ ?_
          refine oN 7 (some 5) #[T_,T_,T_,T_,T_,T_,T_,T_,F_] HT_ (fun K hK => ?_)
          refine box_step ?hg (N := 5) ?hd (cs := #[.bool false, .string (⟨#[]⟩ : ByteArray), .string (⟨#[]⟩ : ByteArray)]) (t := 45) ?hr ?_; (case hd => rfl); (case hg => rfl); (case hr => first | (go_simp; done) | (go_simp; rfl))
          intro gb319 hg w29 hbox hb
          have n0_ := wB BK318 hb
          have n1_ := wH hb
          have n2_ := Aside0.mk (hbox)
          have n3_ := Aside0.mk ((qG hg))
          have n4_ := Aside0.mk ((qG hg))
          have n5_ := Aside0.mk ((by rw [hg]; exact Nat.ne_of_lt (blk_lt (g := gb318) (o := .cells #[.bool false, .string (⟨#[]⟩ : ByteArray), .string (⟨#[]⟩ : ByteArray)] 45 (0, 0)) (qB BK318)) : gb318 ≠ gb319))
          have n6_ := Aside0.mk ((by rw [hg]; exact Nat.ne_of_gt (blk_lt (g := gb318) (o := .cells #[.bool false, .string (⟨#[]⟩ : ByteArray), .string (⟨#[]⟩ : ByteArray)] 45 (0, 0)) (qB BK318)) : gb319 ≠ gb318))
          clear BK318
          clear HB
          have BK318 := n0_
          have HB := n1_
          have BK319 := n2_
          have GE319 := n4_
          have NB318_319 := n5_
          have NB319_318 := n6_
          clear n0_ n1_ n2_ n3_ n4_ n5_ n6_
          clear hb hbox hg
          refine hK.out _ _ trivial (fun hHeld => ?_)
          clear hK K
          refine nS (some 5) ?_
          refine oN 8 (none) #[T_,T_,T_,T_,T_,T_,T_,T_,T_] HT_ (fun K hK => ?_)
          have hs30 : w29.cell? ⟨gb319, 0, none⟩ = some (.bool false) := c0_ BK319
          have hfs30 := xF_ BK319.out 0
          have hns30_0 := NB318_319.out
          have hms30_0 := NB319_318.out
          have hs31 : w29.cell? ⟨gb319, 1, none⟩ = some (.string (⟨#[]⟩ : ByteArray)) := c1_ BK319
          have hfs31 := xF_ BK319.out 1
          have hns31_0 := NB318_319.out
          have hms31_0 := NB319_318.out
          have hs32 : w29.cell? ⟨gb319, 2, none⟩ = some (.string (⟨#[]⟩ : ByteArray)) := c2_ BK319
          have hfs32 := xF_ BK319.out 2
          have hns32_0 := NB318_319.out
          have hms32_0 := NB319_318.out
          refine skip_ (w1 := ?_) (by rfl) rfl ?_ ?_
          rotate_left
          ·go_simp
           rfl
          refine hK.out _ _ trivial (fun hHeld => ?_)
          clear hK K
          refine done_ (done_of HT_.out (by kernel_rfl)) ?_
          obtain ⟨hnb33, hnc33⟩ := nn_ NB319_318
          obtain ⟨hcz34_0, hcz34_1, hcz34_2, hfz34_0, hfz34_1, hfz34_2⟩ := e3_ BK319
          obtain ⟨hcz35_0, hcz35_1, hcz35_2, hfz35_0, hfz35_1, hfz35_2⟩ := e3_ BK318
          try go_wp2
          refine bodyPost_ret (results_ct rfl _ _ gb318 45 #[.bool false, .string (⟨#[]⟩ : ByteArray), .string (⟨#[]⟩ : ByteArray)] (0, 0) _ rfl (by (with_reducible repeat (first | apply xN_ | apply xD_ | apply xA_)); refine blk_put (cs := #[.bool false, .string (⟨#[]⟩ : ByteArray), .string (⟨#[]⟩ : ByteArray)]) ?_ 2 _ rfl; refine blk_put (cs := #[.bool false, .string (⟨#[]⟩ : ByteArray), .string (⟨#[]⟩ : ByteArray)]) ?_ 1 _ rfl; refine blk_put (cs := #[.bool false, .string (⟨#[]⟩ : ByteArray), .string (⟨#[]⟩ : ByteArray)]) ?_ 0 _ rfl; refine xR_ ?_ NB318_319.out _; refine xR_ ?_ NB318_319.out _; refine xR_ ?_ NB318_319.out _; (with_reducible repeat (first | apply xN_ | apply xD_ | apply xA_)); exact BK318.out) Tryd.underlying45 rfl (by kernel_rfl)) rfl ?_
          exact ⟨eX, qH⟩
         ·rw [if_neg c27] at H
          have c27b0 : decide ((wrap64 ((a0.size : Int) - (wrap64 (2 + (wrap64 (bt a0 1)))))) < 2) = false := decide_eq_false c27
          clear c27
          obtain ⟨ji36, hji36⟩ : ∃ j_ : Int, (wrap64 (2 + (wrap64 (bt a0 1)))) = j_ := ⟨_, rfl⟩
          replace H : (if 0 ≤ (ji36) then (if (ji36) < (a0.size : Int) then (if 0 ≤ (wrap64 ((ji36) + 1)) then (if (wrap64 ((ji36) + 1)) < (a0.size : Int) then (if (wrap64 ((wrap64 ((a0.size : Int) - (ji36))) - 2)) < (wrap64 ((wrap64 (256 * (wrap64 (bt a0 (ji36))))) + (wrap64 (bt a0 (wrap64 ((ji36) + 1)))))) then (some (false, (⟨#[]⟩ : ByteArray), (⟨#[]⟩ : ByteArray), 0)) else (if 0 ≤ (wrap64 ((ji36) + 2)) then (if (wrap64 ((ji36) + 2)) ≤ (wrap64 ((wrap64 ((ji36) + 2)) + (wrap64 ((wrap64 (256 * (wrap64 (bt a0 (ji36))))) + (wrap64 (bt a0 (wrap64 ((ji36) + 1)))))))) then (if (wrap64 ((wrap64 ((ji36) + 2)) + (wrap64 ((wrap64 (256 * (wrap64 (bt a0 (ji36))))) + (wrap64 (bt a0 (wrap64 ((ji36) + 1)))))))) ≤ (a0.size : Int) then (some (((bt a0 0) == 1), a0.extract 2 ((ji36) : Int).toNat, a0.extract ((wrap64 ((ji36) + 2)) : Int).toNat ((wrap64 ((wrap64 ((ji36) + 2)) + (wrap64 ((wrap64 (256 * (wrap64 (bt a0 (ji36))))) + (wrap64 (bt a0 (wrap64 ((ji36) + 1)))))))) : Int).toNat, wrap64 ((wrap64 ((ji36) + 2)) + (wrap64 ((wrap64 (256 * (wrap64 (bt a0 (ji36))))) + (wrap64 (bt a0 (wrap64 ((ji36) + 1))))))))) else (none)) else (none)) else (none))) else (none)) else (none)) else (none)) else (none)) = some (r1, r2, r3, r4) := by first | (rw [hji36] at H; exact H) | (simp only [hji36] at H ⊢; exact H)
          (try rw [hji36] at c16b0)
          (try rw [hji36] at c16b1)
          (try rw [hji36] at c16)
          (try rw [hji36] at c17b0)
          (try rw [hji36] at c17b1)
          (try rw [hji36] at c17)
          (try rw [hji36] at c27b0)
          have hji36w : (IntKind.i64.wrap (2 + (wrap64 (bt a0 1)))) = ji36 := (i64_w _).trans hji36
          by_cases c37 : 0 ≤ (ji36)
          ·rw [if_pos c37] at H
           have c37b0 : decide (0 ≤ (ji36)) = true := decide_eq_true c37
           clear c37
           by_cases c38 : (ji36) < (a0.size : Int)
           ·rw [if_pos c38] at H
            have c38b0 : decide ((ji36) < (a0.size : Int)) = true := decide_eq_true c38
            clear c38
            obtain ⟨ji40, hji40⟩ : ∃ j_ : Int, (wrap64 ((ji36) + 1)) = j_ := ⟨_, rfl⟩
            replace H : (if 0 ≤ (ji40) then (if (ji40) < (a0.size : Int) then (if (wrap64 ((wrap64 ((a0.size : Int) - (ji36))) - 2)) < (wrap64 ((wrap64 (256 * (wrap64 (bt a0 (ji36))))) + (wrap64 (bt a0 (ji40))))) then (some (false, (⟨#[]⟩ : ByteArray), (⟨#[]⟩ : ByteArray), 0)) else (if 0 ≤ (wrap64 ((ji36) + 2)) then (if (wrap64 ((ji36) + 2)) ≤ (wrap64 ((wrap64 ((ji36) + 2)) + (wrap64 ((wrap64 (256 * (wrap64 (bt a0 (ji36))))) + (wrap64 (bt a0 (ji40))))))) then (if (wrap64 ((wrap64 ((ji36) + 2)) + (wrap64 ((wrap64 (256 * (wrap64 (bt a0 (ji36))))) + (wrap64 (bt a0 (ji40))))))) ≤ (a0.size : Int) then (some (((bt a0 0) == 1), a0.extract 2 ((ji36) : Int).toNat, a0.extract ((wrap64 ((ji36) + 2)) : Int).toNat ((wrap64 ((wrap64 ((ji36) + 2)) + (wrap64 ((wrap64 (256 * (wrap64 (bt a0 (ji36))))) + (wrap64 (bt a0 (ji40))))))) : Int).toNat, wrap64 ((wrap64 ((ji36) + 2)) + (wrap64 ((wrap64 (256 * (wrap64 (bt a0 (ji36))))) + (wrap64 (bt a0 (ji40)))))))) else (none)) else (none)) else (none))) else (none)) else (none)) = some (r1, r2, r3, r4) := by first | (rw [hji40] at H; exact H) | (simp only [hji40] at H ⊢; exact H)
            have hji40w : (IntKind.i64.wrap ((ji36) + 1)) = ji40 := (i64_w _).trans hji40
            by_cases c41 : 0 ≤ (ji40)
            ·rw [if_pos c41] at H
             have c41b0 : decide (0 ≤ (ji40)) = true := decide_eq_true c41
             clear c41
             by_cases c42 : (ji40) < (a0.size : Int)
             ·rw [if_pos c42] at H
              have c42b0 : decide ((ji40) < (a0.size : Int)) = true := decide_eq_true c42
              clear c42
              by_cases c44 : (wrap64 ((wrap64 ((a0.size : Int) - (ji36))) - 2)) < (wrap64 ((wrap64 (256 * (wrap64 (bt a0 (ji36))))) + (wrap64 (bt a0 (ji40)))))
              ·rw [if_pos c44] at H
               have c44b0 : decide ((wrap64 ((wrap64 ((a0.size : Int) - (ji36))) - 2)) < (wrap64 ((wrap64 (256 * (wrap64 (bt a0 (ji36))))) + (wrap64 (bt a0 (ji40)))))) = true := decide_eq_true c44
               clear c44
               simp only [Option.some.injEq, Prod.mk.injEq] at H
               obtain ⟨rfl, rfl, rfl, rfl⟩ := H
               have p13 : 0 ≤ (1 : Int) := (by omega)
               have q13 : 1 < a0.size := (by have : (1 : Int) < (a0.size : Int) := of_decide_eq_true aS; omega)
               have hx13 : ∀ h : 1 < a0.size, ((a0[1]'h).toNat : Int) = bt a0 1 := bt_at a0 1
               clear p13
               have qi13 : (1 < (a0.size : Int)) = True := eq_true (of_decide_eq_true aS)
               replace q13 := eq_true q13
               try go_wp2
               have n0_ := Aside0.mk (xD_ BK318.out)
               have n1_ := Aside0.mk (yD_ HB.out)
               clear BK318
               clear HB
               have BK318 := n0_
               have HB := n1_
               clear n0_ n1_
               have p15 : 0 ≤ (0 : Int) := (by omega)
               have q15 : 0 < a0.size := (by have : (0 : Int) < (a0.size : Int) := of_decide_eq_true aS; omega)
               have hx15 : ∀ h : 0 < a0.size, ((a0[0]'h).toNat : Int) = bt a0 0 := bt_at a0 0
               clear p15
               have qi15 : (0 < (a0.size : Int)) = True := eq_true (of_decide_eq_true aS)
               replace q15 := eq_true q15
               refine start_ (n := 9) (S := fun w' => True) (ds := []) #[F_,F_,F_,F_,F_,F_,F_,F_,F_] (by kernel_rfl) rfl rfl trivial (fun hHeld => ?_); refine with_tabW armadaref05_one.tab4 armadaref05_one.bits4 (fun HT_ HW_ => ?_)
               generalize wc.drew = w45 at BK318 HB hHeld ⊢
               refine pU 0 (some 29) #[T_,F_,F_,F_,F_,F_,F_,F_,F_] HT_ ?_
               refine pU 3 (some 32) #[T_,F_,F_,T_,F_,F_,F_,F_,F_] HT_ ?_
               refine pU 4 (some 33) #[T_,F_,F_,T_,T_,F_,F_,F_,F_] HT_ ?_
               refine pU 5 (some 34) #[T_,F_,F_,T_,T_,T_,F_,F_,F_] HT_ ?_
               refine take_ (i := 1) (N := some 30) (v := ?_) (a' := ?_) #[T_,T_,F_,T_,T_,T_,F_,F_,F_] rfl rfl (take_ofW HT_.out HW_.out (by kernel_rfl)) (fun _ _ _ h => h) (Or.inl ⟨by rfl, ?_⟩) hHeld ?_ ?_
               rotate_left
               ·intro w' _
                go_simp
                with_reducible rfl
               rotate_left
               ·simp only [Act.put, List.setIfInBounds_toArray, List.set_cons_zero, List.set_cons_succ, i64_w, i32_w]
                rfl
               refine pU 2 (some 31) #[T_,T_,T_,T_,T_,T_,F_,F_,F_] HT_ ?_
               refine pU 6 (some 35) #[T_,T_,T_,T_,T_,T_,T_,F_,F_] HT_ ?_
               refine oN 7 (some 5) #[T_,T_,T_,T_,T_,T_,T_,T_,F_] HT_ (fun K hK => ?_)
               refine box_step ?hg (N := 5) ?hd (cs := #[.bool false, .string (⟨#[]⟩ : ByteArray), .string (⟨#[]⟩ : ByteArray)]) (t := 45) ?hr ?_; (case hd => rfl); (case hg => rfl); (case hr => first | (go_simp; done) | (go_simp; rfl))
               intro gb319 hg w46 hbox hb
               have n0_ := wB BK318 hb
               have n1_ := wH hb
               have n2_ := Aside0.mk (hbox)
               have n3_ := Aside0.mk ((qG hg))
               have n4_ := Aside0.mk ((qG hg))
               have n5_ := Aside0.mk ((by rw [hg]; exact Nat.ne_of_lt (blk_lt (g := gb318) (o := .cells #[.bool false, .string (⟨#[]⟩ : ByteArray), .string (⟨#[]⟩ : ByteArray)] 45 (0, 0)) (qB BK318)) : gb318 ≠ gb319))
               have n6_ := Aside0.mk ((by rw [hg]; exact Nat.ne_of_gt (blk_lt (g := gb318) (o := .cells #[.bool false, .string (⟨#[]⟩ : ByteArray), .string (⟨#[]⟩ : ByteArray)] 45 (0, 0)) (qB BK318)) : gb319 ≠ gb318))
               clear BK318
               clear HB
               have BK318 := n0_
               have HB := n1_
               have BK319 := n2_
               have GE319 := n4_
               have NB318_319 := n5_
               have NB319_318 := n6_
               clear n0_ n1_ n2_ n3_ n4_ n5_ n6_
               clear hb hbox hg
               refine hK.out _ _ trivial (fun hHeld => ?_)
               clear hK K
               refine nS (some 5) ?_
               refine oN 8 (none) #[T_,T_,T_,T_,T_,T_,T_,T_,T_] HT_ (fun K hK => ?_)
               have hs47 : w46.cell? ⟨gb319, 0, none⟩ = some (.bool false) := c0_ BK319
               have hfs47 := xF_ BK319.out 0
               have hns47_0 := NB318_319.out
               have hms47_0 := NB319_318.out
               have hs48 : w46.cell? ⟨gb319, 1, none⟩ = some (.string (⟨#[]⟩ : ByteArray)) := c1_ BK319
               have hfs48 := xF_ BK319.out 1
               have hns48_0 := NB318_319.out
               have hms48_0 := NB319_318.out
               have hs49 : w46.cell? ⟨gb319, 2, none⟩ = some (.string (⟨#[]⟩ : ByteArray)) := c2_ BK319
               have hfs49 := xF_ BK319.out 2
               have hns49_0 := NB318_319.out
               have hms49_0 := NB319_318.out
               refine skip_ (w1 := ?_) (by rfl) rfl ?_ ?_
               rotate_left
               ·go_simp
                rfl
               refine hK.out _ _ trivial (fun hHeld => ?_)
               clear hK K
               refine done_ (done_of HT_.out (by kernel_rfl)) ?_
               obtain ⟨hnb50, hnc50⟩ := nn_ NB319_318
               obtain ⟨hcz51_0, hcz51_1, hcz51_2, hfz51_0, hfz51_1, hfz51_2⟩ := e3_ BK319
               try go_wp2
               have n0_ : Aside0 ((((w46.setCell ⟨gb319, 0, none⟩ (.bool false)).setCell ⟨gb319, 1, none⟩ (.string (a0.extract 2 ((ji36) : Int).toNat))).setCell ⟨gb319, 2, none⟩ (.string (⟨#[]⟩ : ByteArray))).heap[gb318]? = some (.cells #[.bool false, .string (⟨#[]⟩ : ByteArray), .string (⟨#[]⟩ : ByteArray)] 45 (0, 0))) := ⟨by (with_reducible repeat (first | apply xN_ | apply xD_ | apply xA_)); refine xR_ ?_ NB318_319.out _; refine xR_ ?_ NB318_319.out _; refine xR_ ?_ NB318_319.out _; (with_reducible repeat (first | apply xN_ | apply xD_ | apply xA_)); exact BK318.out⟩
               have n1_ : Aside0 ((((w46.setCell ⟨gb319, 0, none⟩ (.bool false)).setCell ⟨gb319, 1, none⟩ (.string (a0.extract 2 ((ji36) : Int).toNat))).setCell ⟨gb319, 2, none⟩ (.string (⟨#[]⟩ : ByteArray))).heap[gb319]? = some (.cells #[.bool false, .string (a0.extract 2 ((ji36) : Int).toNat), .string (⟨#[]⟩ : ByteArray)] 45 (0, 0))) := ⟨by (with_reducible repeat (first | apply xN_ | apply xD_ | apply xA_)); refine blk_put (cs := #[.bool false, .string (a0.extract 2 ((ji36) : Int).toNat), .string (⟨#[]⟩ : ByteArray)]) ?_ 2 _ rfl; refine blk_put (cs := #[.bool false, .string (⟨#[]⟩ : ByteArray), .string (⟨#[]⟩ : ByteArray)]) ?_ 1 _ rfl; refine blk_put (cs := #[.bool false, .string (⟨#[]⟩ : ByteArray), .string (⟨#[]⟩ : ByteArray)]) ?_ 0 _ rfl; (with_reducible repeat (first | apply xN_ | apply xD_ | apply xA_)); exact BK319.out⟩
               have n2_ : Aside0 (Below w.heap.size w (((w46.setCell ⟨gb319, 0, none⟩ (.bool false)).setCell ⟨gb319, 1, none⟩ (.string (a0.extract 2 ((ji36) : Int).toNat))).setCell ⟨gb319, 2, none⟩ (.string (⟨#[]⟩ : ByteArray)))) := ⟨qH⟩
               (try clear BK318)
               (try clear BK319)
               (try clear HB)
               generalize (((w46.setCell ⟨gb319, 0, none⟩ (.bool false)).setCell ⟨gb319, 1, none⟩ (.string (a0.extract 2 ((ji36) : Int).toNat))).setCell ⟨gb319, 2, none⟩ (.string (⟨#[]⟩ : ByteArray))) = w52 at n0_ n1_ n2_ ⊢
               have BK318 := n0_
               have BK319 := n1_
               have HB := n2_
               clear n0_ n1_ n2_
               have n0_ := Aside0.mk (xD_ BK318.out)
               have n1_ := Aside0.mk (xD_ BK319.out)
               have n2_ := Aside0.mk (yD_ HB.out)
               clear BK318
               clear BK319
               clear HB
               have BK318 := n0_
               have BK319 := n1_
               have HB := n2_
               clear n0_ n1_ n2_
               have p39 : 0 ≤ ((ji36) : Int) := of_decide_eq_true aS
               have q39 : (ji36) < (a0.size : Int) := of_decide_eq_true aS
               have hx39 := bt_at a0 (ji36)
               replace p39 := eq_true p39
               replace q39 := eq_true q39
               have p43 : 0 ≤ ((ji40) : Int) := of_decide_eq_true aS
               have q43 : (ji40) < (a0.size : Int) := of_decide_eq_true aS
               have hx43 := bt_at a0 (ji40)
               replace p43 := eq_true p43
               replace q43 := eq_true q43
               refine start_ (n := 12) (S := fun w' => True) (ds := []) #[F_,F_,F_,F_,F_,F_,F_,F_,F_,F_,F_,F_] (by kernel_rfl) rfl rfl trivial (fun hHeld => ?_); refine with_tabW armadaref05_one.tab9 armadaref05_one.bits9 (fun HT_ HW_ => ?_)
               generalize w52.drew = w53 at BK318 BK319 HB hHeld ⊢
               refine pU 0 (some 46) #[T_,F_,F_,F_,F_,F_,F_,F_,F_,F_,F_,F_] HT_ ?_
               refine pU 1 (some 47) #[T_,T_,F_,F_,F_,F_,F_,F_,F_,F_,F_,F_] HT_ ?_
               refine pU 5 (some 51) #[T_,T_,F_,F_,F_,T_,F_,F_,F_,F_,F_,F_] HT_ ?_
               refine pU 6 (some 52) #[T_,T_,F_,F_,F_,T_,T_,F_,F_,F_,F_,F_] HT_ ?_
               refine pU 7 (some 53) #[T_,T_,F_,F_,F_,T_,T_,T_,F_,F_,F_,F_] HT_ ?_
               refine take_ (i := 2) (N := some 48) (v := ?_) (a' := ?_) #[T_,T_,T_,F_,F_,T_,T_,T_,F_,F_,F_,F_] rfl rfl (take_ofW HT_.out HW_.out (by kernel_rfl)) (fun _ _ _ h => h) (Or.inl ⟨by rfl, ?_⟩) hHeld ?_ ?_
               rotate_left
               ·intro w' _
                go_simp
                with_reducible rfl
               rotate_left
               ·simp only [Act.put, List.setIfInBounds_toArray, List.set_cons_zero, List.set_cons_succ, i64_w, i32_w]
                rfl
               refine pU 3 (some 49) #[T_,T_,T_,T_,F_,T_,T_,T_,F_,F_,F_,F_] HT_ ?_
               refine pU 4 (some 50) #[T_,T_,T_,T_,T_,T_,T_,T_,F_,F_,F_,F_] HT_ ?_
               refine take_ (i := 8) (N := some 54) (v := ?_) (a' := ?_) #[T_,T_,T_,T_,T_,T_,T_,T_,T_,F_,F_,F_] rfl rfl (take_ofW HT_.out HW_.out (by kernel_rfl)) (fun _ _ _ h => h) (Or.inl ⟨by rfl, ?_⟩) hHeld ?_ ?_
               rotate_left
               ·intro w' _
                go_simp
                with_reducible rfl
               rotate_left
               ·simp only [Act.put, List.setIfInBounds_toArray, List.set_cons_zero, List.set_cons_succ, i64_w, i32_w]
                rfl
               refine pU 9 (some 55) #[T_,T_,T_,T_,T_,T_,T_,T_,T_,T_,F_,F_] HT_ ?_
               refine pU 10 (some 56) #[T_,T_,T_,T_,T_,T_,T_,T_,T_,T_,T_,F_] HT_ ?_
               refine pU 11 (some 6) #[T_,T_,T_,T_,T_,T_,T_,T_,T_,T_,T_,T_] HT_ ?_
               refine done_ (done_of HT_.out (by kernel_rfl)) ?_
               obtain ⟨hcz54_0, hcz54_1, hcz54_2, hfz54_0, hfz54_1, hfz54_2⟩ := e3_ BK318
               try go_wp2
               refine bodyPost_ret (results_ct rfl _ _ gb318 45 #[.bool false, .string (⟨#[]⟩ : ByteArray), .string (⟨#[]⟩ : ByteArray)] (0, 0) _ rfl (by (with_reducible repeat (first | apply xN_ | apply xD_ | apply xA_)); refine blk_put (cs := #[.bool false, .string (⟨#[]⟩ : ByteArray), .string (⟨#[]⟩ : ByteArray)]) ?_ 2 _ rfl; refine blk_put (cs := #[.bool false, .string (⟨#[]⟩ : ByteArray), .string (⟨#[]⟩ : ByteArray)]) ?_ 1 _ rfl; refine blk_put (cs := #[.bool false, .string (⟨#[]⟩ : ByteArray), .string (⟨#[]⟩ : ByteArray)]) ?_ 0 _ rfl; (with_reducible repeat (first | apply xN_ | apply xD_ | apply xA_)); exact BK318.out) Tryd.underlying45 rfl (by kernel_rfl)) rfl ?_
               exact ⟨by first | rfl | (simp [errW_none, errW_some] <;> rfl) | (simp only [← hji36, ← hji40]; first | rfl | (simp [errW_none, errW_some] <;> rfl)) | (simp [*, errW_none, errW_some] <;> rfl), qH⟩
              ·rw [if_neg c44] at H
               have c44b0 : decide ((wrap64 ((wrap64 ((a0.size : Int) - (ji36))) - 2)) < (wrap64 ((wrap64 (256 * (wrap64 (bt a0 (ji36))))) + (wrap64 (bt a0 (ji40)))))) = false := decide_eq_false c44
               clear c44
               obtain ⟨ji55, hji55⟩ : ∃ j_ : Int, (wrap64 ((ji36) + 2)) = j_ := ⟨_, rfl⟩
               replace H : (if 0 ≤ (ji55) then (if (ji55) ≤ (wrap64 ((ji55) + (wrap64 ((wrap64 (256 * (wrap64 (bt a0 (ji36))))) + (wrap64 (bt a0 (ji40))))))) then (if (wrap64 ((ji55) + (wrap64 ((wrap64 (256 * (wrap64 (bt a0 (ji36))))) + (wrap64 (bt a0 (ji40))))))) ≤ (a0.size : Int) then (some (((bt a0 0) == 1), a0.extract 2 ((ji36) : Int).toNat, a0.extract ((ji55) : Int).toNat ((wrap64 ((ji55) + (wrap64 ((wrap64 (256 * (wrap64 (bt a0 (ji36))))) + (wrap64 (bt a0 (ji40))))))) : Int).toNat, wrap64 ((ji55) + (wrap64 ((wrap64 (256 * (wrap64 (bt a0 (ji36))))) + (wrap64 (bt a0 (ji40)))))))) else (none)) else (none)) else (none)) = some (r1, r2, r3, r4) := by first | (rw [hji55] at H; exact H) | (simp only [hji55] at H ⊢; exact H)
               have hji55w : (IntKind.i64.wrap ((ji36) + 2)) = ji55 := (i64_w _).trans hji55
               by_cases c56 : 0 ≤ (ji55)
               ·rw [if_pos c56] at H
                have c56b0 := eq_true c56
                have c56b1 : decide (0 ≤ (ji55)) = true := decide_eq_true c56
                clear c56
                by_cases c57 : (ji55) ≤ (wrap64 ((ji55) + (wrap64 ((wrap64 (256 * (wrap64 (bt a0 (ji36))))) + (wrap64 (bt a0 (ji40)))))))
                ·rw [if_pos c57] at H
                 have c57b0 := eq_true c57
                 have c57b1 : decide ((ji55) ≤ (wrap64 ((ji55) + (wrap64 ((wrap64 (256 * (wrap64 (bt a0 (ji36))))) + (wrap64 (bt a0 (ji40)))))))) = true := decide_eq_true c57
                 by_cases c58 : (wrap64 ((ji55) + (wrap64 ((wrap64 (256 * (wrap64 (bt a0 (ji36))))) + (wrap64 (bt a0 (ji40))))))) ≤ (a0.size : Int)
                 ·rw [if_pos c58] at H
                  have c58b0 := eq_true c58
                  have c58b1 : decide ((wrap64 ((ji55) + (wrap64 ((wrap64 (256 * (wrap64 (bt a0 (ji36))))) + (wrap64 (bt a0 (ji40))))))) ≤ (a0.size : Int)) = true := decide_eq_true c58
                  simp only [Option.some.injEq, Prod.mk.injEq] at H
                  obtain ⟨rfl, rfl, rfl, rfl⟩ := H
                  have p13 : 0 ≤ (1 : Int) := (by omega)
                  have q13 : 1 < a0.size := (by have : (1 : Int) < (a0.size : Int) := of_decide_eq_true aS; omega)
                  have hx13 : ∀ h : 1 < a0.size, ((a0[1]'h).toNat : Int) = bt a0 1 := bt_at a0 1
                  clear p13
                  have qi13 : (1 < (a0.size : Int)) = True := eq_true (of_decide_eq_true aS)
                  replace q13 := eq_true q13
                  try go_wp2
                  have n0_ := Aside0.mk (xD_ BK318.out)
                  have n1_ := Aside0.mk (yD_ HB.out)
                  clear BK318
                  clear HB
                  have BK318 := n0_
                  have HB := n1_
                  clear n0_ n1_
                  have p15 : 0 ≤ (0 : Int) := (by omega)
                  have q15 : 0 < a0.size := (by have : (0 : Int) < (a0.size : Int) := of_decide_eq_true aS; omega)
                  have hx15 : ∀ h : 0 < a0.size, ((a0[0]'h).toNat : Int) = bt a0 0 := bt_at a0 0
                  clear p15
                  have qi15 : (0 < (a0.size : Int)) = True := eq_true (of_decide_eq_true aS)
                  replace q15 := eq_true q15
                  refine start_ (n := 9) (S := fun w' => True) (ds := []) #[F_,F_,F_,F_,F_,F_,F_,F_,F_] (by kernel_rfl) rfl rfl trivial (fun hHeld => ?_); refine with_tabW armadaref05_one.tab4 armadaref05_one.bits4 (fun HT_ HW_ => ?_)
                  generalize wc.drew = w59 at BK318 HB hHeld ⊢
                  refine pU 0 (some 29) #[T_,F_,F_,F_,F_,F_,F_,F_,F_] HT_ ?_
                  refine pU 3 (some 32) #[T_,F_,F_,T_,F_,F_,F_,F_,F_] HT_ ?_
                  refine pU 4 (some 33) #[T_,F_,F_,T_,T_,F_,F_,F_,F_] HT_ ?_
                  refine pU 5 (some 34) #[T_,F_,F_,T_,T_,T_,F_,F_,F_] HT_ ?_
                  refine take_ (i := 1) (N := some 30) (v := ?_) (a' := ?_) #[T_,T_,F_,T_,T_,T_,F_,F_,F_] rfl rfl (take_ofW HT_.out HW_.out (by kernel_rfl)) (fun _ _ _ h => h) (Or.inl ⟨by rfl, ?_⟩) hHeld ?_ ?_
                  rotate_left
                  ·intro w' _
                   go_simp
                   with_reducible rfl
                  rotate_left
                  ·simp only [Act.put, List.setIfInBounds_toArray, List.set_cons_zero, List.set_cons_succ, i64_w, i32_w]
                   rfl
                  refine pU 2 (some 31) #[T_,T_,T_,T_,T_,T_,F_,F_,F_] HT_ ?_
                  refine pU 6 (some 35) #[T_,T_,T_,T_,T_,T_,T_,F_,F_] HT_ ?_
                  refine oN 7 (some 5) #[T_,T_,T_,T_,T_,T_,T_,T_,F_] HT_ (fun K hK => ?_)
                  refine box_step ?hg (N := 5) ?hd (cs := #[.bool false, .string (⟨#[]⟩ : ByteArray), .string (⟨#[]⟩ : ByteArray)]) (t := 45) ?hr ?_; (case hd => rfl); (case hg => rfl); (case hr => first | (go_simp; done) | (go_simp; rfl))
                  intro gb319 hg w60 hbox hb
                  have n0_ := wB BK318 hb
                  have n1_ := wH hb
                  have n2_ := Aside0.mk (hbox)
                  have n3_ := Aside0.mk ((qG hg))
                  have n4_ := Aside0.mk ((qG hg))
                  have n5_ := Aside0.mk ((by rw [hg]; exact Nat.ne_of_lt (blk_lt (g := gb318) (o := .cells #[.bool false, .string (⟨#[]⟩ : ByteArray), .string (⟨#[]⟩ : ByteArray)] 45 (0, 0)) (qB BK318)) : gb318 ≠ gb319))
                  have n6_ := Aside0.mk ((by rw [hg]; exact Nat.ne_of_gt (blk_lt (g := gb318) (o := .cells #[.bool false, .string (⟨#[]⟩ : ByteArray), .string (⟨#[]⟩ : ByteArray)] 45 (0, 0)) (qB BK318)) : gb319 ≠ gb318))
                  clear BK318
                  clear HB
                  have BK318 := n0_
                  have HB := n1_
                  have BK319 := n2_
                  have GE319 := n4_
                  have NB318_319 := n5_
                  have NB319_318 := n6_
                  clear n0_ n1_ n2_ n3_ n4_ n5_ n6_
                  clear hb hbox hg
                  refine hK.out _ _ trivial (fun hHeld => ?_)
                  clear hK K
                  refine nS (some 5) ?_
                  refine oN 8 (none) #[T_,T_,T_,T_,T_,T_,T_,T_,T_] HT_ (fun K hK => ?_)
                  have hs61 : w60.cell? ⟨gb319, 0, none⟩ = some (.bool false) := c0_ BK319
                  have hfs61 := xF_ BK319.out 0
                  have hns61_0 := NB318_319.out
                  have hms61_0 := NB319_318.out
                  have hs62 : w60.cell? ⟨gb319, 1, none⟩ = some (.string (⟨#[]⟩ : ByteArray)) := c1_ BK319
                  have hfs62 := xF_ BK319.out 1
                  have hns62_0 := NB318_319.out
                  have hms62_0 := NB319_318.out
                  have hs63 : w60.cell? ⟨gb319, 2, none⟩ = some (.string (⟨#[]⟩ : ByteArray)) := c2_ BK319
                  have hfs63 := xF_ BK319.out 2
                  have hns63_0 := NB318_319.out
                  have hms63_0 := NB319_318.out
                  refine skip_ (w1 := ?_) (by rfl) rfl ?_ ?_
                  rotate_left
                  ·go_simp
                   rfl
                  refine hK.out _ _ trivial (fun hHeld => ?_)
                  clear hK K
                  refine done_ (done_of HT_.out (by kernel_rfl)) ?_
                  obtain ⟨hnb64, hnc64⟩ := nn_ NB319_318
                  obtain ⟨hcz65_0, hcz65_1, hcz65_2, hfz65_0, hfz65_1, hfz65_2⟩ := e3_ BK319
                  try go_wp2
                  have n0_ : Aside0 ((((w60.setCell ⟨gb319, 0, none⟩ (.bool false)).setCell ⟨gb319, 1, none⟩ (.string (a0.extract 2 ((ji36) : Int).toNat))).setCell ⟨gb319, 2, none⟩ (.string (⟨#[]⟩ : ByteArray))).heap[gb318]? = some (.cells #[.bool false, .string (⟨#[]⟩ : ByteArray), .string (⟨#[]⟩ : ByteArray)] 45 (0, 0))) := ⟨by (with_reducible repeat (first | apply xN_ | apply xD_ | apply xA_)); refine xR_ ?_ NB318_319.out _; refine xR_ ?_ NB318_319.out _; refine xR_ ?_ NB318_319.out _; (with_reducible repeat (first | apply xN_ | apply xD_ | apply xA_)); exact BK318.out⟩
                  have n1_ : Aside0 ((((w60.setCell ⟨gb319, 0, none⟩ (.bool false)).setCell ⟨gb319, 1, none⟩ (.string (a0.extract 2 ((ji36) : Int).toNat))).setCell ⟨gb319, 2, none⟩ (.string (⟨#[]⟩ : ByteArray))).heap[gb319]? = some (.cells #[.bool false, .string (a0.extract 2 ((ji36) : Int).toNat), .string (⟨#[]⟩ : ByteArray)] 45 (0, 0))) := ⟨by (with_reducible repeat (first | apply xN_ | apply xD_ | apply xA_)); refine blk_put (cs := #[.bool false, .string (a0.extract 2 ((ji36) : Int).toNat), .string (⟨#[]⟩ : ByteArray)]) ?_ 2 _ rfl; refine blk_put (cs := #[.bool false, .string (⟨#[]⟩ : ByteArray), .string (⟨#[]⟩ : ByteArray)]) ?_ 1 _ rfl; refine blk_put (cs := #[.bool false, .string (⟨#[]⟩ : ByteArray), .string (⟨#[]⟩ : ByteArray)]) ?_ 0 _ rfl; (with_reducible repeat (first | apply xN_ | apply xD_ | apply xA_)); exact BK319.out⟩
                  have n2_ : Aside0 (Below w.heap.size w (((w60.setCell ⟨gb319, 0, none⟩ (.bool false)).setCell ⟨gb319, 1, none⟩ (.string (a0.extract 2 ((ji36) : Int).toNat))).setCell ⟨gb319, 2, none⟩ (.string (⟨#[]⟩ : ByteArray)))) := ⟨qH⟩
                  (try clear BK318)
                  (try clear BK319)
                  (try clear HB)
                  generalize (((w60.setCell ⟨gb319, 0, none⟩ (.bool false)).setCell ⟨gb319, 1, none⟩ (.string (a0.extract 2 ((ji36) : Int).toNat))).setCell ⟨gb319, 2, none⟩ (.string (⟨#[]⟩ : ByteArray))) = w66 at n0_ n1_ n2_ ⊢
                  have BK318 := n0_
                  have BK319 := n1_
                  have HB := n2_
                  clear n0_ n1_ n2_
                  have n0_ := Aside0.mk (xD_ BK318.out)
                  have n1_ := Aside0.mk (xD_ BK319.out)
                  have n2_ := Aside0.mk (yD_ HB.out)
                  clear BK318
                  clear BK319
                  clear HB
                  have BK318 := n0_
                  have BK319 := n1_
                  have HB := n2_
                  clear n0_ n1_ n2_
                  have p39 : 0 ≤ ((ji36) : Int) := of_decide_eq_true aS
                  have q39 : (ji36) < (a0.size : Int) := of_decide_eq_true aS
                  have hx39 := bt_at a0 (ji36)
                  replace p39 := eq_true p39
                  replace q39 := eq_true q39
                  have p43 : 0 ≤ ((ji40) : Int) := of_decide_eq_true aS
                  have q43 : (ji40) < (a0.size : Int) := of_decide_eq_true aS
                  have hx43 := bt_at a0 (ji40)
                  replace p43 := eq_true p43
                  replace q43 := eq_true q43
                  refine start_ (n := 12) (S := fun w' => True) (ds := []) #[F_,F_,F_,F_,F_,F_,F_,F_,F_,F_,F_,F_] (by kernel_rfl) rfl rfl trivial (fun hHeld => ?_); refine with_tabW armadaref05_one.tab9 armadaref05_one.bits9 (fun HT_ HW_ => ?_)
                  generalize w66.drew = w67 at BK318 BK319 HB hHeld ⊢
                  refine pU 0 (some 46) #[T_,F_,F_,F_,F_,F_,F_,F_,F_,F_,F_,F_] HT_ ?_
                  refine pU 1 (some 47) #[T_,T_,F_,F_,F_,F_,F_,F_,F_,F_,F_,F_] HT_ ?_
                  refine pU 5 (some 51) #[T_,T_,F_,F_,F_,T_,F_,F_,F_,F_,F_,F_] HT_ ?_
                  refine pU 6 (some 52) #[T_,T_,F_,F_,F_,T_,T_,F_,F_,F_,F_,F_] HT_ ?_
                  refine pU 7 (some 53) #[T_,T_,F_,F_,F_,T_,T_,T_,F_,F_,F_,F_] HT_ ?_
                  refine take_ (i := 2) (N := some 48) (v := ?_) (a' := ?_) #[T_,T_,T_,F_,F_,T_,T_,T_,F_,F_,F_,F_] rfl rfl (take_ofW HT_.out HW_.out (by kernel_rfl)) (fun _ _ _ h => h) (Or.inl ⟨by rfl, ?_⟩) hHeld ?_ ?_
                  rotate_left
                  ·intro w' _
                   go_simp
                   with_reducible rfl
                  rotate_left
                  ·simp only [Act.put, List.setIfInBounds_toArray, List.set_cons_zero, List.set_cons_succ, i64_w, i32_w]
                   rfl
                  refine pU 3 (some 49) #[T_,T_,T_,T_,F_,T_,T_,T_,F_,F_,F_,F_] HT_ ?_
                  refine pU 4 (some 50) #[T_,T_,T_,T_,T_,T_,T_,T_,F_,F_,F_,F_] HT_ ?_
                  refine take_ (i := 8) (N := some 54) (v := ?_) (a' := ?_) #[T_,T_,T_,T_,T_,T_,T_,T_,T_,F_,F_,F_] rfl rfl (take_ofW HT_.out HW_.out (by kernel_rfl)) (fun _ _ _ h => h) (Or.inl ⟨by rfl, ?_⟩) hHeld ?_ ?_
                  rotate_left
                  ·intro w' _
                   go_simp
                   with_reducible rfl
                  rotate_left
                  ·simp only [Act.put, List.setIfInBounds_toArray, List.set_cons_zero, List.set_cons_succ, i64_w, i32_w]
                   rfl
                  refine pU 9 (some 55) #[T_,T_,T_,T_,T_,T_,T_,T_,T_,T_,F_,F_] HT_ ?_
                  refine pU 10 (some 56) #[T_,T_,T_,T_,T_,T_,T_,T_,T_,T_,T_,F_] HT_ ?_
                  refine pU 11 (some 6) #[T_,T_,T_,T_,T_,T_,T_,T_,T_,T_,T_,T_] HT_ ?_
                  refine done_ (done_of HT_.out (by kernel_rfl)) ?_
                  obtain ⟨hcz68_0, hcz68_1, hcz68_2, hfz68_0, hfz68_1, hfz68_2⟩ := e3_ BK319
                  obtain ⟨hcz69_0, hcz69_1, hcz69_2, hfz69_0, hfz69_1, hfz69_2⟩ := e3_ BK318
                  try go_wp2
                  refine bodyPost_ret (results_ct rfl _ _ gb318 45 #[.bool false, .string (a0.extract 2 ((ji36) : Int).toNat), .string (a0.extract ((ji55) : Int).toNat ((wrap64 ((ji55) + (wrap64 ((wrap64 (256 * (wrap64 (bt a0 (ji36))))) + (wrap64 (bt a0 (ji40))))))) : Int).toNat)] (0, 0) _ rfl (by (with_reducible repeat (first | apply xN_ | apply xD_ | apply xA_)); refine blk_put (cs := #[.bool false, .string (a0.extract 2 ((ji36) : Int).toNat), .string (⟨#[]⟩ : ByteArray)]) ?_ 2 _ rfl; refine blk_put (cs := #[.bool false, .string (⟨#[]⟩ : ByteArray), .string (⟨#[]⟩ : ByteArray)]) ?_ 1 _ rfl; refine blk_put (cs := #[.bool false, .string (⟨#[]⟩ : ByteArray), .string (⟨#[]⟩ : ByteArray)]) ?_ 0 _ rfl; refine xR_ ?_ NB318_319.out _; (with_reducible repeat (first | apply xN_ | apply xD_ | apply xA_)); exact BK318.out) Tryd.underlying45 rfl (by kernel_rfl)) rfl ?_
                  exact ⟨by first | rfl | (simp [errW_none, errW_some] <;> rfl) | (simp only [← hji36, ← hji40, ← hji55]; first | rfl | (simp [errW_none, errW_some] <;> rfl)) | (simp [*, errW_none, errW_some] <;> rfl), qH⟩
                 ·rw [if_neg c58] at H
                  exact absurd H (by simp)
                ·rw [if_neg c57] at H
                 exact absurd H (by simp)
               ·rw [if_neg c56] at H
                exact absurd H (by simp)
             ·rw [if_neg c42] at H
              exact absurd H (by simp)
            ·rw [if_neg c41] at H
             exact absurd H (by simp)
           ·rw [if_neg c38] at H
            exact absurd H (by simp)
          ·rw [if_neg c37] at H
           exact absurd H (by simp)
       ·rw [if_neg c17] at H
        exact absurd H (by simp)
      ·rw [if_neg c16] at H
       exact absurd H (by simp)
     ·rw [if_neg c14] at H
      exact absurd H (by simp)
    ·rw [if_neg c12] at H
     exact absurd H (by simp)
end Go.Proofs.YtnhhbmekjoanbaaDoor.P
