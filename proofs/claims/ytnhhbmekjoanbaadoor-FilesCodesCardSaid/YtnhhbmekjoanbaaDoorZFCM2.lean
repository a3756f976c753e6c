/- Printed functions, merged. -/
import Derived.Test.YtnhhbmekjoanbaaDoorZFCM0
import Derived.Test.YtnhhbmekjoanbaaDoorZFCH3
import Derived.Test.YtnhhbmekjoanbaaDoorZFCM1
import Derived.Test.YtnhhbmekjoanbaaDoorZFCAl
namespace Go.Proofs.YtnhhbmekjoanbaaDoor.P
open Go.RowKit Go.Proofs.YtnhhbmekjoanbaaDoorW.PrintWords Go.Proofs.YtnhhbmekjoanbaaDoorW.PrintLast Go.Proofs.YtnhhbmekjoanbaaDoorW.PrintMore
attribute [local go_sem] max2_int min2_int max_two min_two max_three min_three max_four min_four   -- for this text's walks alone
set_option linter.unusedVariables false
set_option linter.unusedSimpArgs false
mutual
def armadaref05_Encode.l0 : Nat → List (S45) → ByteArray → Int → Option (ByteArray × Int)
 | 0, _, _, _ => none
 | k + 1, x0, x4, x5 => if x5 < (x0.length : Int) then (if 0 ≤ x5 then ((armadaref05_Path.f k ((rd_T45 x0 x5).f1)).bind fun t308 => (if t308 = true then (if (rd_T45 x0 x5).f0 = true then (armadaref05_Encode.j1 k x0 x4 x5 (((rd_T45 x0 x5).f2).toList != ([] : List UInt8)) ((rd_T45 x0 x5).f0) ((rd_T45 x0 x5).f1) ((rd_T45 x0 x5).f2)) else (armadaref05_Encode.j1 k x0 x4 x5 false ((rd_T45 x0 x5).f0) ((rd_T45 x0 x5).f1) ((rd_T45 x0 x5).f2))) else (some ((⟨#[]⟩ : ByteArray), 6)))) else (none)) else (if (x4.size : Int) > 4096 then (some ((⟨#[]⟩ : ByteArray), 2)) else (some (x4, 0)))
def armadaref05_Encode.j1 : Nat → List (S45) → ByteArray → Int → Bool → Bool → ByteArray → ByteArray → Option (ByteArray × Int)
 | 0, _, _, _, _, _, _, _ => none
 | k + 1, x0, x4, x5, x28, x308000, x308001, x308002 => if x28 = true then (some ((⟨#[]⟩ : ByteArray), 1)) else (if (x308002.size : Int) > 4096 then (some ((⟨#[]⟩ : ByteArray), 2)) else (if x308000 = true then ((some (([1, ((x308001.size : Int)) % 256] : List Int) : List Int)).bind fun y309 => (if x4.size + (strOfNums y309).size ≤ 9223372036854775807 then (if (x4 ++ (strOfNums y309)).size + x308001.size ≤ 9223372036854775807 then (armadaref05_Encode.l0 k x0 ((x4 ++ (strOfNums y309)) ++ x308001) (wrap64 (x5 + 1))) else (none)) else (none))) else ((some (([0, ((x308001.size : Int)) % 256] : List Int) : List Int)).bind fun y312 => (if x4.size + (strOfNums y312).size ≤ 9223372036854775807 then (if (x4 ++ (strOfNums y312)).size + x308001.size ≤ 9223372036854775807 then ((some (([(wrap64 ((x308002.size : Int) / 256)) % 256, (x308002.size : Int) % 256] : List Int) : List Int)).bind fun y315 => (if ((x4 ++ (strOfNums y312)) ++ x308001).size + (strOfNums y315).size ≤ 9223372036854775807 then (if (((x4 ++ (strOfNums y312)) ++ x308001) ++ (strOfNums y315)).size + x308002.size ≤ 9223372036854775807 then (armadaref05_Encode.l0 k x0 ((((x4 ++ (strOfNums y312)) ++ x308001) ++ (strOfNums y315)) ++ x308002) (wrap64 (x5 + 1))) else (none)) else (none))) else (none)) else (none)))))
end
def armadaref05_Encode.f (k : Nat) (l0 : List (S45)) : Option (ByteArray × Int) := armadaref05_Encode.l0 k l0 (⟨#[]⟩ : ByteArray) 0
theorem armadaref05_Encode.mono_l : ∀ k, (∀ y0 y1 y2, LeO (armadaref05_Encode.l0 k y0 y1 y2) (armadaref05_Encode.l0 (k + 1) y0 y1 y2)) ∧ (∀ y0 y1 y2 y3 y4 y5 y6, LeO (armadaref05_Encode.j1 k y0 y1 y2 y3 y4 y5 y6) (armadaref05_Encode.j1 (k + 1) y0 y1 y2 y3 y4 y5 y6))
 | 0 => ⟨fun _ _ _ r h => by simp [armadaref05_Encode.l0] at h, fun _ _ _ _ _ _ _ r h => by simp [armadaref05_Encode.j1] at h⟩
 | k + 1 => by
  obtain ⟨ih0, ih1⟩ := armadaref05_Encode.mono_l k
  refine ⟨?_, ?_⟩
  ·intro y0 y1 y2
   unfold armadaref05_Encode.l0
   repeat' first
   | (with_reducible exact ih0 _ _ _)
   | (with_reducible exact ih1 _ _ _ _ _ _ _)
   | (with_reducible exact armadaref05_Path.mono _ _)
   | (with_reducible exact LeO.refl _)
   | (with_reducible exact LeO.none _)
   | (with_reducible refine LeO.ite ?_ ?_)
   | (with_reducible refine LeO.bind ?_ (fun _ => ?_))
   | exact ih0 _ _ _
   | exact ih1 _ _ _ _ _ _ _
   | exact armadaref05_Path.mono _ _
   | exact LeO.none _
   | refine LeO.ite ?_ ?_
   | refine LeO.bind ?_ (fun _ => ?_)
  ·intro y0 y1 y2 y3 y4 y5 y6
   unfold armadaref05_Encode.j1
   repeat' first
   | (with_reducible exact ih0 _ _ _)
   | (with_reducible exact ih1 _ _ _ _ _ _ _)
   | (with_reducible exact armadaref05_Path.mono _ _)
   | (with_reducible exact LeO.refl _)
   | (with_reducible exact LeO.none _)
   | (with_reducible refine LeO.ite ?_ ?_)
   | (with_reducible refine LeO.bind ?_ (fun _ => ?_))
   | exact ih0 _ _ _
   | exact ih1 _ _ _ _ _ _ _
   | exact armadaref05_Path.mono _ _
   | exact LeO.none _
   | refine LeO.ite ?_ ?_
   | refine LeO.bind ?_ (fun _ => ?_)
theorem armadaref05_Encode.mono : ∀ a0 k, LeO (armadaref05_Encode.f k a0) (armadaref05_Encode.f (k + 1) a0) := by
 intro a0 k
 obtain ⟨ih0, ih1⟩ := armadaref05_Encode.mono_l k
 unfold armadaref05_Encode.f
 repeat' first
   | (with_reducible exact ih0 _ _ _)
   | (with_reducible exact ih1 _ _ _ _ _ _ _)
   | (with_reducible exact armadaref05_Path.mono _ _)
   | (with_reducible exact LeO.refl _)
   | (with_reducible exact LeO.none _)
   | (with_reducible refine LeO.ite ?_ ?_)
   | (with_reducible refine LeO.bind ?_ (fun _ => ?_))
   | exact ih0 _ _ _
   | exact ih1 _ _ _ _ _ _ _
   | exact armadaref05_Path.mono _ _
   | exact LeO.none _
   | refine LeO.ite ?_ ?_
   | refine LeO.bind ?_ (fun _ => ?_)
set_option maxHeartbeats 8000000 in
set_option maxRecDepth 100000 in
theorem armadaref05_Encode.calls (k : Nat) (A0 : Option Addr) (c0 : Nat) (l0 : List (S45)) (r1 : ByteArray) (r2 : Int) (w : World) (hr0 : Kd.C k45 w A0 l0.length l0) (hc0 : l0.length ≤ c0) (h : armadaref05_Encode.f k l0 = some (r1, r2)) :
  Calls Tryd.prog 27 #[.slice A0 l0.length c0] w fun e w' => e = .returned (.tuple #[.string r1, .int .i64 r2]) ∧ Below w.heap.size w w' := by
 have hu45 := Tryd.underlying45
 have HR0 := Aside0.mk hr0
 have HC0 := Aside0.mk hc0
 clear hr0 hc0
 have HB := Aside0.mk (Below.refl w.heap.size w)
 have H : (armadaref05_Encode.l0 k l0 (⟨#[]⟩ : ByteArray) 0) = some (r1, r2) := h
 clear h
 have H' := Aside0.mk H
 clear H
 go_enter Tryd.func27, Tryd.ntmps27
 go_wp2
 go_loopg [4, 5] k (fun kq v4 v5 w' => ∃ (x4_1 : ByteArray) (x5_1 : Int), v4 = .string x4_1 ∧ v5 = .int .i64 x5_1 ∧ Aside0 (armadaref05_Encode.l0 kq l0 x4_1 x5_1 = some (r1, r2)) ∧ Aside0 (kq ≤ k) ∧ Aside0 (Below w.heap.size w w'))
 case atStart => exact ⟨((⟨#[]⟩ : ByteArray)), (0), eY, eY, H', ⟨Nat.le_refl _⟩, ⟨qH⟩⟩
 case round =>
  clear H'
  obtain ⟨x4_1, x5_1, rfl, rfl, HA, HK1, HB⟩ := hrel
  cases gk with
  | zero => exact absurd HA.out (by simp [armadaref05_Encode.l0])
  | succ k1 =>
   have H := HA.out
   clear HA
   simp only [armadaref05_Encode.l0] at H
   by_cases c2 : x5_1 < (l0.length : Int)
   ·rw [if_pos c2] at H
    have c2b0 : decide (x5_1 < (l0.length : Int)) = true := decide_eq_true c2
    clear c2
    by_cases c3 : 0 ≤ x5_1
    ·rw [if_pos c3] at H
     have c3b0 : decide (0 ≤ x5_1) = true := decide_eq_true c3
     clear c3
     replace H := Option.bind_eq_some_iff.mp H
     obtain ⟨t308, A40, H⟩ := H
     try dsimp only at H
     have A4 := Aside0.mk A40
     clear A40
     by_cases c5 : t308 = true
     ·subst c5
      rw [if_pos rfl] at H
      have HC6 := Aside0.mk H
      clear H
      have p306 : 0 ≤ (x5_1 : Int) := of_decide_eq_true aS
      have q306 : x5_1 < (l0.length : Int) := of_decide_eq_true aS
      obtain ⟨ad306, e306, hx306_0, hx306_1, hx306_2⟩ := at_T45 HR0.out x5_1 p306 q306
      cases e306
      replace hx306_0 := (HB.out.cell (World.block_lt_of_cell? w _ hx306_0)).trans hx306_0
      replace hx306_1 := (HB.out.cell (World.block_lt_of_cell? w _ hx306_1)).trans hx306_1
      replace hx306_2 := (HB.out.cell (World.block_lt_of_cell? w _ hx306_2)).trans hx306_2
      replace p306 := eq_true p306
      replace q306 := eq_true q306
      go_upto_region 8 with (first | ((with_reducible refine gate_dst (N := 6) rfl ?_); refine bE (N := 6) (cs := #[.bool false, .string (⟨#[]⟩ : ByteArray), .string (⟨#[]⟩ : ByteArray)]) (t := 45) ?_; intro gb307 hg w7 hbox hb; have n0_ := wH hb; have n1_ := Aside0.mk (hbox); have n2_ := Aside0.mk ((qG hg)); have n3_ := Aside0.mk ((qG hg)); clear HB; have HB := n0_; have BK307 := n1_; have GE307 := n3_; clear n0_ n1_ n2_ n3_; clear hb hbox hg; obtain ⟨hcz8_0, hcz8_1, hcz8_2, hfz8_0, hfz8_1, hfz8_2⟩ := e3_ BK307) | ((with_reducible refine gate_callee (f := 15) rfl ?_); refine gL (some 20) Tryd.func15 #[.string ((rd_T45 l0 x5_1).f1)] ?_; (with_reducible refine (armadaref05_Path.calls k1 ((rd_T45 l0 x5_1).f1) true _ A4.out).mono ?_); rintro e w9 ⟨rfl, hb⟩; refine ⟨_, rfl, ?_⟩; have n0_ := wP3 BK307 hb; have n1_ := wH hb; clear BK307; clear HB; have BK307 := n0_; have HB := n1_; clear n0_ n1_; (try clear hb); (try clear hb2); (try clear hk); (try clear hi)))
      (try simp only [Act.put, List.setIfInBounds_toArray, List.set_cons_zero, List.set_cons_succ])
      go_cut [28] (fun v28 wc => ∃ (kq : Nat) (x28_5 : Bool), v28 = .bool x28_5 ∧ Aside0 (armadaref05_Encode.j1 kq l0 x4_1 x5_1 x28_5 ((rd_T45 l0 x5_1).f0) ((rd_T45 l0 x5_1).f1) ((rd_T45 l0 x5_1).f2) = some (r1, r2)) ∧ Aside0 (kq ≤ k1) ∧ Aside0 (wc.heap[gb307]? = some (.cells #[.bool ((rd_T45 l0 x5_1).f0), .string ((rd_T45 l0 x5_1).f1), .string ((rd_T45 l0 x5_1).f2)] 45 (0, 0))) ∧ Aside0 (Below w.heap.size w wc))
      case first =>
       have H := HC6.out
       clear HC6
       obtain ⟨bq10, hbq10⟩ : ∃ b_ : Bool, b_ = ((rd_T45 l0 x5_1).f0) := ⟨_, rfl⟩
       replace H : (if bq10 = true then (armadaref05_Encode.j1 k1 l0 x4_1 x5_1 (((rd_T45 l0 x5_1).f2).toList != ([] : List UInt8)) bq10 ((rd_T45 l0 x5_1).f1) ((rd_T45 l0 x5_1).f2)) else (armadaref05_Encode.j1 k1 l0 x4_1 x5_1 false bq10 ((rd_T45 l0 x5_1).f1) ((rd_T45 l0 x5_1).f2))) = some (r1, r2) := by rw [← hbq10] at H; exact H
       have Nbq10 := Aside0.mk hbq10
       clear hbq10
       have BKq := BK307
       rw [← Nbq10.out] at BKq
       (try rw [← Nbq10.out])
       by_cases c11 : bq10 = true
       ·subst c11
        rw [if_pos rfl] at H
        have H' := Aside0.mk H
        clear H
        have hcz12_0 := c0_ BKq
        have hcz12_1 := c1_ BKq
        have hcz12_2 := c2_ BKq
        have hfz12_0 := f_ BK307 0
        have hfz12_1 := f_ BK307 1
        have hfz12_2 := f_ BK307 2
        go_wp2
        go_meet
        case rel => exact ⟨_, ((((rd_T45 l0 x5_1).f2).toList != ([] : List UInt8))), (by first | rfl | (simp; done) | (cases ((rd_T45 l0 x5_1).f2).toList <;> rfl) | (cases ((rd_T45 l0 x5_1).f2).toList <;> simp; done)), ⟨by rw [← Nbq10.out]; exact H'.out⟩, ⟨by have := HK1.out; first | omega | exact Nat.le_refl _⟩, ⟨qB BK307⟩, ⟨qH⟩⟩
       ·replace c11 := Bool.eq_false_iff.mpr c11
        subst c11
        rw [if_neg nF_] at H
        have H' := Aside0.mk H
        clear H
        have hcz13_0 := c0_ BKq
        have hcz13_1 := c1_ BKq
        have hcz13_2 := c2_ BKq
        have hfz13_0 := f_ BK307 0
        have hfz13_1 := f_ BK307 1
        have hfz13_2 := f_ BK307 2
        go_wp2
        go_meet
        case rel => exact ⟨_, (false), eY, ⟨by rw [← Nbq10.out]; exact H'.out⟩, ⟨by have := HK1.out; first | omega | exact Nat.le_refl _⟩, ⟨qB BK307⟩, ⟨qH⟩⟩
      case rest =>
       clear HC6
       (try clear q1); (try clear c2b0); (try clear p2); (try clear c3b0); (try clear p3); (try clear q3); (try clear c5); (try clear q10); (try clear hcz8_0); (try clear hcz8_1)
       (try clear hcz8_2); (try clear hfz8_0); (try clear hfz8_1); (try clear hfz8_2); (try clear hx306_0); (try clear hx306_1); (try clear hx306_2); (try clear p306)
       (try clear q306)
       obtain ⟨kq, x28_5, rfl, HA, HJ5, BK307, HB⟩ := hcut
       cases kq with
       | zero => exact absurd HA.out (by simp [armadaref05_Encode.j1])
       | succ kj5 =>
        have H := HA.out
        clear HA
        simp only [armadaref05_Encode.j1] at H
        by_cases c14 : x28_5 = true
        ·subst c14
         rw [if_pos rfl] at H
         simp only [Option.some.injEq, Prod.mk.injEq] at H
         obtain ⟨rfl, rfl⟩ := H
         go_wp2
         go_ret2
         exact ⟨eX, qH⟩
        ·replace c14 := Bool.eq_false_iff.mpr c14
         subst c14
         rw [if_neg nF_] at H
         by_cases c15 : (((rd_T45 l0 x5_1).f2).size : Int) > 4096
         ·rw [if_pos c15] at H
          have c15b0 : decide (4096 < (((rd_T45 l0 x5_1).f2).size : Int)) = true := decide_eq_true c15
          have c15b1 : decide (4096 < ((rd_T45 l0 x5_1).f2).size) = true := decide_eq_true (by omega)
          clear c15
          simp only [Option.some.injEq, Prod.mk.injEq] at H
          obtain ⟨rfl, rfl⟩ := H
          obtain ⟨hcz16_0, hcz16_1, hcz16_2, hfz16_0, hfz16_1, hfz16_2⟩ := e3_ BK307
          go_wp2
          go_ret2
          exact ⟨eX, qH⟩
         ·rw [if_neg c15] at H
          have c15b0 : decide (4096 < (((rd_T45 l0 x5_1).f2).size : Int)) = false := decide_eq_false c15
          have c15b1 : decide (4096 < ((rd_T45 l0 x5_1).f2).size) = false := decide_eq_false (by omega)
          clear c15
          by_cases c17 : ((rd_T45 l0 x5_1).f0) = true
          ·rw [if_pos c17] at H
           have c17b0 : ((rd_T45 l0 x5_1).f0) = true := c17
           clear c17
           obtain ⟨y309, hy309⟩ : ∃ y_ : List Int, y_ = (([1, ((((rd_T45 l0 x5_1).f1).size : Int)) % 256] : List Int)) := ⟨_, rfl⟩
           replace H : (if x4_1.size + (strOfNums y309).size ≤ 9223372036854775807 then (if (x4_1 ++ (strOfNums y309)).size + ((rd_T45 l0 x5_1).f1).size ≤ 9223372036854775807 then (armadaref05_Encode.l0 kj5 l0 ((x4_1 ++ (strOfNums y309)) ++ ((rd_T45 l0 x5_1).f1)) (wrap64 (x5_1 + 1))) else (none)) else (none)) = some (r1, r2) := by first | (rw [hy309]; with_reducible exact H) | (have H2_ := (Option.bind_some _ _).symm.trans H; rw [hy309]; with_reducible exact H2_) | (have H2_ := (Option.bind_some _ _).symm.trans H; with_reducible exact H2_) | with_reducible exact H | (rw [hy309]; exact H) | exact H
           have Ny309 := Aside0.mk hy309
           clear hy309
           by_cases c18 : x4_1.size + (strOfNums y309).size ≤ 9223372036854775807
           ·rw [if_pos c18] at H
            have c18b0 := eq_true c18
            have c18b1 : decide (x4_1.size + (strOfNums y309).size ≤ 9223372036854775807) = true := decide_eq_true c18
            try have c18b2 : (9223372036854775807 < x4_1.size + (strOfNums y309).size) = False := eq_false (Nat.not_lt.2 c18)
            by_cases c19 : (x4_1 ++ (strOfNums y309)).size + ((rd_T45 l0 x5_1).f1).size ≤ 9223372036854775807
            ·rw [if_pos c19] at H
             have c19b0 := eq_true c19
             have c19b1 : decide ((x4_1 ++ (strOfNums y309)).size + ((rd_T45 l0 x5_1).f1).size ≤ 9223372036854775807) = true := decide_eq_true c19
             try have c19b2 : (9223372036854775807 < (x4_1 ++ (strOfNums y309)).size + ((rd_T45 l0 x5_1).f1).size) = False := eq_false (Nat.not_lt.2 c19)
             (try (have c19b3 := c19; simp only [ByteArray.size_append, ByteArray.size_extract] at c19b3; have c19b4 := eq_true c19b3; have c19b5 := decide_eq_true c19b3; have c19b6 := eq_false (Nat.not_lt.2 c19b3)))
             have H' := Aside0.mk H
             clear H
             obtain ⟨hcz20_0, hcz20_1, hcz20_2, hfz20_0, hfz20_1, hfz20_2⟩ := e3_ BK307
             go_wp2_with (first | ((with_reducible refine gate_dst (N := 41) rfl ?_); refine Kd.R_lit (Kd.int .u8) _ 5 ?hg (N := 41) ?hd (xs := ([1, ((((rd_T45 l0 x5_1).f1).size : Int)) % 256] : List Int)) (inner := [.int .u8 1, .int .u8 (((((rd_T45 l0 x5_1).f1).size : Int)) % 256)]) (ok := fun _ => True) (okp := fun _ => True) ?hr ?hp (fun _ hk => hk) trivial (Below.refl _ _) (Nat.le_refl _) (by simp) ?_; (case hd => rfl); (case hg => rfl); (case hr => first | (go_simp; done) | (go_simp; rfl)); (case hp => exact (Reps.one (show Kd.M (Kd.int .u8) _ _ _ 1 [.int .u8 1] from rfl) (Reps.one (show Kd.M (Kd.int .u8) _ _ _ (((((rd_T45 l0 x5_1).f1).size : Int)) % 256) [.int .u8 (((((rd_T45 l0 x5_1).f1).size : Int)) % 256)] from rfl) (Reps.none _ _)))); intro v310 w21 ho22 hb hg_ hnew_; clear hg_ hnew_; (first | rw [← Ny309.out] at ho22 | (simp only [Int.reduceToNat] at ho22; rw [← Ny309.out] at ho22)); have n0_ := Aside0.mk (Kd.R_lower ho22 (below_size qH)); have n1_ := wB BK307 hb; have n2_ := wH hb; clear BK307; clear HB; have HO311 := n0_; have BK307 := n1_; have HB := n2_; clear n0_ n1_ n2_; clear hb ho22; have hcv23 := own_string (P := Tryd.prog) Tryd.underlying68 Tryd.underlying5 Tryd.underlying9 (Kd.own_of_R HO311.out); obtain ⟨hcz24_0, hcz24_1, hcz24_2, hfz24_0, hfz24_1, hfz24_2⟩ := e3_ BK307))
             go_roundg kj5
             case measure => have := HK1.out; have := HJ5.out; omega
             case rel => exact ⟨((x4_1 ++ (strOfNums y309)) ++ ((rd_T45 l0 x5_1).f1)), (wrap64 (x5_1 + 1)), eY, eY, H', ⟨by have := HK1.out; have := HJ5.out; omega⟩, ⟨qH⟩⟩
            ·rw [if_neg c19] at H
             exact absurd H (by simp)
           ·rw [if_neg c18] at H
            exact absurd H (by simp)
          ·rw [if_neg c17] at H
           have c17b0 : ((rd_T45 l0 x5_1).f0) = false := by simpa using c17
           clear c17
           obtain ⟨y312, hy312⟩ : ∃ y_ : List Int, y_ = (([0, ((((rd_T45 l0 x5_1).f1).size : Int)) % 256] : List Int)) := ⟨_, rfl⟩
           replace H : (if x4_1.size + (strOfNums y312).size ≤ 9223372036854775807 then (if (x4_1 ++ (strOfNums y312)).size + ((rd_T45 l0 x5_1).f1).size ≤ 9223372036854775807 then ((some (([(wrap64 ((((rd_T45 l0 x5_1).f2).size : Int) / 256)) % 256, (((rd_T45 l0 x5_1).f2).size : Int) % 256] : List Int) : List Int)).bind fun y315 => (if ((x4_1 ++ (strOfNums y312)) ++ ((rd_T45 l0 x5_1).f1)).size + (strOfNums y315).size ≤ 9223372036854775807 then (if (((x4_1 ++ (strOfNums y312)) ++ ((rd_T45 l0 x5_1).f1)) ++ (strOfNums y315)).size + ((rd_T45 l0 x5_1).f2).size ≤ 9223372036854775807 then (armadaref05_Encode.l0 kj5 l0 ((((x4_1 ++ (strOfNums y312)) ++ ((rd_T45 l0 x5_1).f1)) ++ (strOfNums y315)) ++ ((rd_T45 l0 x5_1).f2)) (wrap64 (x5_1 + 1))) else (none)) else (none))) else (none)) else (none)) = some (r1, r2) := by first | (rw [hy312]; with_reducible exact H) | (have H2_ := (Option.bind_some _ _).symm.trans H; rw [hy312]; with_reducible exact H2_) | (have H2_ := (Option.bind_some _ _).symm.trans H; with_reducible exact H2_) | with_reducible exact H | (rw [hy312]; exact H) | exact H
           have Ny312 := Aside0.mk hy312
           clear hy312
           by_cases c25 : x4_1.size + (strOfNums y312).size ≤ 9223372036854775807
           ·rw [if_pos c25] at H
            have c25b0 := eq_true c25
            have c25b1 : decide (x4_1.size + (strOfNums y312).size ≤ 9223372036854775807) = true := decide_eq_true c25
            try have c25b2 : (9223372036854775807 < x4_1.size + (strOfNums y312).size) = False := eq_false (Nat.not_lt.2 c25)
            by_cases c26 : (x4_1 ++ (strOfNums y312)).size + ((rd_T45 l0 x5_1).f1).size ≤ 9223372036854775807
            ·rw [if_pos c26] at H
             have c26b0 := eq_true c26
             have c26b1 : decide ((x4_1 ++ (strOfNums y312)).size + ((rd_T45 l0 x5_1).f1).size ≤ 9223372036854775807) = true := decide_eq_true c26
             try have c26b2 : (9223372036854775807 < (x4_1 ++ (strOfNums y312)).size + ((rd_T45 l0 x5_1).f1).size) = False := eq_false (Nat.not_lt.2 c26)
             (try (have c26b3 := c26; simp only [ByteArray.size_append, ByteArray.size_extract] at c26b3; have c26b4 := eq_true c26b3; have c26b5 := decide_eq_true c26b3; have c26b6 := eq_false (Nat.not_lt.2 c26b3)))
             obtain ⟨y315, hy315⟩ : ∃ y_ : List Int, y_ = (([(wrap64 ((((rd_T45 l0 x5_1).f2).size : Int) / 256)) % 256, (((rd_T45 l0 x5_1).f2).size : Int) % 256] : List Int)) := ⟨_, rfl⟩
             replace H : (if ((x4_1 ++ (strOfNums y312)) ++ ((rd_T45 l0 x5_1).f1)).size + (strOfNums y315).size ≤ 9223372036854775807 then (if (((x4_1 ++ (strOfNums y312)) ++ ((rd_T45 l0 x5_1).f1)) ++ (strOfNums y315)).size + ((rd_T45 l0 x5_1).f2).size ≤ 9223372036854775807 then (armadaref05_Encode.l0 kj5 l0 ((((x4_1 ++ (strOfNums y312)) ++ ((rd_T45 l0 x5_1).f1)) ++ (strOfNums y315)) ++ ((rd_T45 l0 x5_1).f2)) (wrap64 (x5_1 + 1))) else (none)) else (none)) = some (r1, r2) := by first | (rw [hy315]; with_reducible exact H) | (have H2_ := (Option.bind_some _ _).symm.trans H; rw [hy315]; with_reducible exact H2_) | (have H2_ := (Option.bind_some _ _).symm.trans H; with_reducible exact H2_) | with_reducible exact H | (rw [hy315]; exact H) | exact H
             have Ny315 := Aside0.mk hy315
             clear hy315
             by_cases c27 : ((x4_1 ++ (strOfNums y312)) ++ ((rd_T45 l0 x5_1).f1)).size + (strOfNums y315).size ≤ 9223372036854775807
             ·rw [if_pos c27] at H
              have c27b0 := eq_true c27
              have c27b1 : decide (((x4_1 ++ (strOfNums y312)) ++ ((rd_T45 l0 x5_1).f1)).size + (strOfNums y315).size ≤ 9223372036854775807) = true := decide_eq_true c27
              try have c27b2 : (9223372036854775807 < ((x4_1 ++ (strOfNums y312)) ++ ((rd_T45 l0 x5_1).f1)).size + (strOfNums y315).size) = False := eq_false (Nat.not_lt.2 c27)
              (try (have c27b3 := c27; simp only [ByteArray.size_append, ByteArray.size_extract] at c27b3; have c27b4 := eq_true c27b3; have c27b5 := decide_eq_true c27b3; have c27b6 := eq_false (Nat.not_lt.2 c27b3)))
              by_cases c28 : (((x4_1 ++ (strOfNums y312)) ++ ((rd_T45 l0 x5_1).f1)) ++ (strOfNums y315)).size + ((rd_T45 l0 x5_1).f2).size ≤ 9223372036854775807
              ·rw [if_pos c28] at H
               have c28b0 := eq_true c28
               have c28b1 : decide ((((x4_1 ++ (strOfNums y312)) ++ ((rd_T45 l0 x5_1).f1)) ++ (strOfNums y315)).size + ((rd_T45 l0 x5_1).f2).size ≤ 9223372036854775807) = true := decide_eq_true c28
               try have c28b2 : (9223372036854775807 < (((x4_1 ++ (strOfNums y312)) ++ ((rd_T45 l0 x5_1).f1)) ++ (strOfNums y315)).size + ((rd_T45 l0 x5_1).f2).size) = False := eq_false (Nat.not_lt.2 c28)
               (try (have c28b3 := c28; simp only [ByteArray.size_append, ByteArray.size_extract] at c28b3; have c28b4 := eq_true c28b3; have c28b5 := decide_eq_true c28b3; have c28b6 := eq_false (Nat.not_lt.2 c28b3)))
               have H' := Aside0.mk H
               have hwz : wrap64 ((((rd_T45 l0 x5_1).f2).size : Int) / 256) = ((((rd_T45 l0 x5_1).f2).size : Int) / 256) := gw64 (by omega) (by omega)
               rw [hwz] at Ny315
               clear hwz
               clear H
               obtain ⟨hcz29_0, hcz29_1, hcz29_2, hfz29_0, hfz29_1, hfz29_2⟩ := e3_ BK307
               go_wp2_with (first | ((with_reducible refine gate_dst (N := 41) rfl ?_); refine Kd.R_lit (Kd.int .u8) _ 5 ?hg (N := 41) ?hd (xs := ([0, ((((rd_T45 l0 x5_1).f1).size : Int)) % 256] : List Int)) (inner := [.int .u8 0, .int .u8 (((((rd_T45 l0 x5_1).f1).size : Int)) % 256)]) (ok := fun _ => True) (okp := fun _ => True) ?hr ?hp (fun _ hk => hk) trivial (Below.refl _ _) (Nat.le_refl _) (by simp) ?_; (case hd => rfl); (case hg => rfl); (case hr => first | (go_simp; done) | (go_simp; rfl)); (case hp => exact (Reps.one (show Kd.M (Kd.int .u8) _ _ _ 0 [.int .u8 0] from rfl) (Reps.one (show Kd.M (Kd.int .u8) _ _ _ (((((rd_T45 l0 x5_1).f1).size : Int)) % 256) [.int .u8 (((((rd_T45 l0 x5_1).f1).size : Int)) % 256)] from rfl) (Reps.none _ _)))); intro v313 w30 ho31 hb hg_ hnew_; clear hg_ hnew_; (first | rw [← Ny312.out] at ho31 | (simp only [Int.reduceToNat] at ho31; rw [← Ny312.out] at ho31)); have n0_ := Aside0.mk (Kd.R_lower ho31 (below_size qH)); have n1_ := wB BK307 hb; have n2_ := wH hb; clear BK307; clear HB; have HO314 := n0_; have BK307 := n1_; have HB := n2_; clear n0_ n1_ n2_; clear hb ho31; have hcv32 := own_string (P := Tryd.prog) Tryd.underlying68 Tryd.underlying5 Tryd.underlying9 (Kd.own_of_R HO314.out); obtain ⟨hcz33_0, hcz33_1, hcz33_2, hfz33_0, hfz33_1, hfz33_2⟩ := e3_ BK307) | ((with_reducible refine gate_dst (N := 61) rfl ?_); refine Kd.R_lit (Kd.int .u8) _ 5 ?hg (N := 61) ?hd (xs := ([((((rd_T45 l0 x5_1).f2).size : Int) / 256) % 256, (((rd_T45 l0 x5_1).f2).size : Int) % 256] : List Int)) (inner := [.int .u8 (((((rd_T45 l0 x5_1).f2).size : Int) / 256) % 256), .int .u8 ((((rd_T45 l0 x5_1).f2).size : Int) % 256)]) (ok := fun _ => True) (okp := fun _ => True) ?hr ?hp (fun _ hk => hk) trivial (Below.refl _ _) (Nat.le_refl _) (by simp) ?_; (case hd => rfl); (case hg => rfl); (case hr => first | (go_simp; done) | (go_simp; rfl)); (case hp => exact (Reps.one (show Kd.M (Kd.int .u8) _ _ _ (((((rd_T45 l0 x5_1).f2).size : Int) / 256) % 256) [.int .u8 (((((rd_T45 l0 x5_1).f2).size : Int) / 256) % 256)] from rfl) (Reps.one (show Kd.M (Kd.int .u8) _ _ _ ((((rd_T45 l0 x5_1).f2).size : Int) % 256) [.int .u8 ((((rd_T45 l0 x5_1).f2).size : Int) % 256)] from rfl) (Reps.none _ _)))); intro v316 w34 ho35 hb hg_ hnew_; clear hg_ hnew_; (first | rw [← Ny315.out] at ho35 | (simp only [Int.reduceToNat] at ho35; rw [← Ny315.out] at ho35)); have n0_ := Aside0.mk (Kd.R_elder' (qR HO314.out) (Kd.R_base ho35) hb); have n1_ := Aside0.mk (Kd.R_lower (Kd.R_new' ho35 (Kd.R_lt (qR HO314.out))) (below_size qH)); have n2_ := wB BK307 hb; have n3_ := wH hb; clear HO314; clear BK307; clear HB; have HO317 := n1_; have BK307 := n2_; have HB := n3_; clear n0_ n1_ n2_ n3_; clear hb ho35; have hcv36 := own_string (P := Tryd.prog) Tryd.underlying68 Tryd.underlying5 Tryd.underlying9 (Kd.own_of_R HO317.out); obtain ⟨hcz37_0, hcz37_1, hcz37_2, hfz37_0, hfz37_1, hfz37_2⟩ := e3_ BK307))
               go_roundg kj5
               case measure => have := HK1.out; have := HJ5.out; omega
               case rel => exact ⟨((((x4_1 ++ (strOfNums y312)) ++ ((rd_T45 l0 x5_1).f1)) ++ (strOfNums y315)) ++ ((rd_T45 l0 x5_1).f2)), (wrap64 (x5_1 + 1)), eY, eY, H', ⟨by have := HK1.out; have := HJ5.out; omega⟩, ⟨qH⟩⟩
              ·rw [if_neg c28] at H
               exact absurd H (by simp)
             ·rw [if_neg c27] at H
              exact absurd H (by simp)
            ·rw [if_neg c26] at H
             exact absurd H (by simp)
           ·rw [if_neg c25] at H
            exact absurd H (by simp)
     ·replace c5 := Bool.eq_false_iff.mpr c5
      subst c5
      rw [if_neg nF_] at H
      simp only [Option.some.injEq, Prod.mk.injEq] at H
      obtain ⟨rfl, rfl⟩ := H
      have p306 : 0 ≤ (x5_1 : Int) := of_decide_eq_true aS
      have q306 : x5_1 < (l0.length : Int) := of_decide_eq_true aS
      obtain ⟨ad306, e306, hx306_0, hx306_1, hx306_2⟩ := at_T45 HR0.out x5_1 p306 q306
      cases e306
      replace hx306_0 := (HB.out.cell (World.block_lt_of_cell? w _ hx306_0)).trans hx306_0
      replace hx306_1 := (HB.out.cell (World.block_lt_of_cell? w _ hx306_1)).trans hx306_1
      replace hx306_2 := (HB.out.cell (World.block_lt_of_cell? w _ hx306_2)).trans hx306_2
      replace p306 := eq_true p306
      replace q306 := eq_true q306
      go_wp2_with (first | ((with_reducible refine gate_dst (N := 6) rfl ?_); refine bE (N := 6) (cs := #[.bool false, .string (⟨#[]⟩ : ByteArray), .string (⟨#[]⟩ : ByteArray)]) (t := 45) ?_; intro gb307 hg w38 hbox hb; have n0_ := wH hb; have n1_ := Aside0.mk (hbox); have n2_ := Aside0.mk ((qG hg)); have n3_ := Aside0.mk ((qG hg)); clear HB; have HB := n0_; have BK307 := n1_; have GE307 := n3_; clear n0_ n1_ n2_ n3_; clear hb hbox hg; obtain ⟨hcz39_0, hcz39_1, hcz39_2, hfz39_0, hfz39_1, hfz39_2⟩ := e3_ BK307) | ((with_reducible refine gate_callee (f := 15) rfl ?_); refine gL (some 20) Tryd.func15 #[.string ((rd_T45 l0 x5_1).f1)] ?_; (with_reducible refine (armadaref05_Path.calls k1 ((rd_T45 l0 x5_1).f1) false _ A4.out).mono ?_); rintro e w40 ⟨rfl, hb⟩; refine ⟨_, rfl, ?_⟩; have n0_ := wP3 BK307 hb; have n1_ := wH hb; clear BK307; clear HB; have BK307 := n0_; have HB := n1_; clear n0_ n1_; (try clear hb); (try clear hb2); (try clear hk); (try clear hi)))
      go_ret2
      exact ⟨eX, qH⟩
    ·rw [if_neg c3] at H
     exact absurd H (by simp)
   ·rw [if_neg c2] at H
    have c2b0 : decide (x5_1 < (l0.length : Int)) = false := decide_eq_false c2
    clear c2
    by_cases c41 : (x4_1.size : Int) > 4096
    ·rw [if_pos c41] at H
     have c41b0 : decide (4096 < (x4_1.size : Int)) = true := decide_eq_true c41
     have c41b1 : decide (4096 < x4_1.size) = true := decide_eq_true (by omega)
     clear c41
     simp only [Option.some.injEq, Prod.mk.injEq] at H
     obtain ⟨rfl, rfl⟩ := H
     go_wp2
     go_ret2
     exact ⟨eX, qH⟩
    ·rw [if_neg c41] at H
     have c41b0 : decide (4096 < (x4_1.size : Int)) = false := decide_eq_false c41
     have c41b1 : decide (4096 < x4_1.size) = false := decide_eq_false (by omega)
     clear c41
     simp only [Option.some.injEq, Prod.mk.injEq] at H
     obtain ⟨rfl, rfl⟩ := H
     go_wp2
     go_ret2
     exact ⟨eX, qH⟩
def armadaref05_Decode.l0 : Nat → ByteArray → List (S45) → Int → Option ((List (S45)) × Int)
 | 0, _, _, _ => none
 | k + 1, x0, x4, x5 => if x5 < (x0.size : Int) then (if 0 ≤ x5 then (if x5 ≤ (x0.size : Int) then ((armadaref05_one.f k (x0.extract (x5 : Int).toNat x0.size)).bind fun bt320 => (if bt320.2.2.2 = 0 then (some (([] : List (S45)), 1)) else (if x4.length < 3518437208883 then (armadaref05_Decode.l0 k x0 (x4 ++ [(⟨bt320.1, bt320.2.1, bt320.2.2.1⟩ : S45)]) (wrap64 (x5 + bt320.2.2.2))) else (none)))) else (none)) else (none)) else ((armadaref05_Encode.f k x4).bind fun bt328 => (if bt328.2 = 0 then (if bt328.1.toList = x0.toList then (some (x4, 0)) else (some (([] : List (S45)), 1))) else (some (([] : List (S45)), 1))))
def armadaref05_Decode.f (k : Nat) (a0 : ByteArray) : Option ((List (S45)) × Int) := armadaref05_Decode.l0 k a0 ([] : List (S45)) 0
theorem armadaref05_Decode.mono_l : ∀ k, (∀ y0 y1 y2, LeO (armadaref05_Decode.l0 k y0 y1 y2) (armadaref05_Decode.l0 (k + 1) y0 y1 y2))
 | 0 => fun _ _ _ r h => by simp [armadaref05_Decode.l0] at h
 | k + 1 => by
  have ih0 := armadaref05_Decode.mono_l k
  ·intro y0 y1 y2
   unfold armadaref05_Decode.l0
   repeat' first
   | (with_reducible exact ih0 _ _ _)
   | (with_reducible exact armadaref05_Encode.mono _ _)
   | (with_reducible exact armadaref05_one.mono _ _)
   | (with_reducible exact LeO.refl _)
   | (with_reducible exact LeO.none _)
   | (with_reducible refine LeO.ite ?_ ?_)
   | (with_reducible refine LeO.bind ?_ (fun _ => ?_))
   | exact ih0 _ _ _
   | exact armadaref05_Encode.mono _ _
   | exact armadaref05_one.mono _ _
   | exact LeO.none _
   | refine LeO.ite ?_ ?_
   | refine LeO.bind ?_ (fun _ => ?_)
theorem armadaref05_Decode.mono : ∀ a0 k, LeO (armadaref05_Decode.f k a0) (armadaref05_Decode.f (k + 1) a0) := by
 intro a0 k
 have ih0 := armadaref05_Decode.mono_l k
 unfold armadaref05_Decode.f
 repeat' first
   | (with_reducible exact ih0 _ _ _)
   | (with_reducible exact armadaref05_Encode.mono _ _)
   | (with_reducible exact armadaref05_one.mono _ _)
   | (with_reducible exact LeO.refl _)
   | (with_reducible exact LeO.none _)
   | (with_reducible refine LeO.ite ?_ ?_)
   | (with_reducible refine LeO.bind ?_ (fun _ => ?_))
   | exact ih0 _ _ _
   | exact armadaref05_Encode.mono _ _
   | exact armadaref05_one.mono _ _
   | exact LeO.none _
   | refine LeO.ite ?_ ?_
   | refine LeO.bind ?_ (fun _ => ?_)
set_option maxHeartbeats 8000000 in
set_option maxRecDepth 100000 in
theorem armadaref05_Decode.calls (k : Nat) (a0 : ByteArray) (r1 : List (S45)) (r2 : Int) (w : World) (h : armadaref05_Decode.f k a0 = some (r1, r2)) :
  Calls Tryd.prog 29 #[.string a0] w fun e w' => ∃ v0_ : Value, e = .returned (.tuple #[v0_, .int .i64 r2]) ∧ Kd.R k45 45 w' w.heap.size (fun _ => True) v0_ r1 ∧ Below w.heap.size w w' := by
 have hu45 := Tryd.underlying45
 have HB := Aside0.mk (Below.refl w.heap.size w)
 have H : (armadaref05_Decode.l0 k a0 ([] : List (S45)) 0) = some (r1, r2) := h
 clear h
 have H' := Aside0.mk H
 clear H
 go_enter Tryd.func29, Tryd.ntmps29
 go_wp2
 go_loopg [4, 5] k (fun kq v4 v5 w' => ∃ (x4_1 : List (S45)) (x5_1 : Int), v5 = .int .i64 x5_1 ∧ Aside0 (armadaref05_Decode.l0 kq a0 x4_1 x5_1 = some (r1, r2)) ∧ Aside0 (kq ≤ k) ∧ Aside0 (Kd.R k45 45 w' w.heap.size (fun _ => True) v4 x4_1) ∧ Aside0 (Below w.heap.size w w'))
 case atStart => exact ⟨(([] : List (S45))), (0), eY, H', ⟨Nat.le_refl _⟩, ⟨by first | exact Kd.R_nil _ _ _ _ _ | exact Kd.N_nil _ _ _ _ _ | exact Kd.V_nil _ _ _ _ _ | exact Kd.Q_nil _ _ _ _ _ | exact Kd.S_nil _ _ _ _ _⟩, ⟨qH⟩⟩
 case round =>
  clear H'
  obtain ⟨x4_1, x5_1, rfl, HA, HK1, HO_4, HB⟩ := hrel
  cases gk with
  | zero => exact absurd HA.out (by simp [armadaref05_Decode.l0])
  | succ k1 =>
   have H := HA.out
   clear HA
   simp only [armadaref05_Decode.l0] at H
   by_cases c2 : x5_1 < (a0.size : Int)
   ·rw [if_pos c2] at H
    have c2b0 : decide (x5_1 < (a0.size : Int)) = true := decide_eq_true c2
    clear c2
    by_cases c3 : 0 ≤ x5_1
    ·rw [if_pos c3] at H
     have c3b0 := eq_true c3
     have c3b1 : decide (0 ≤ x5_1) = true := decide_eq_true c3
     clear c3
     by_cases c4 : x5_1 ≤ (a0.size : Int)
     ·rw [if_pos c4] at H
      have c4b0 := eq_true c4
      have c4b1 : decide (x5_1 ≤ (a0.size : Int)) = true := decide_eq_true c4
      clear c4
      replace H := Option.bind_eq_some_iff.mp H
      obtain ⟨⟨t320, t321, t322, t323⟩, A50, H⟩ := H
      try dsimp only at H
      have A5 := Aside0.mk A50
      clear A50
      by_cases c6 : t323 = 0
      ·rw [if_pos c6] at H
       have c6b0 : (t323 == 0) = true := beq_iff_eq.mpr c6
       have c6b1 : (t323 != 0) = false := bne_eq_false_iff_eq.mpr c6
       clear c6
       simp only [Option.some.injEq, Prod.mk.injEq] at H
       obtain ⟨rfl, rfl⟩ := H
       go_wp2_with (first | ((with_reducible refine gate_callee (f := 50) rfl ?_); refine gL (some 18) Tryd.func50 #[.string (a0.extract (x5_1 : Int).toNat a0.size)] ?_; (with_reducible refine (armadaref05_one.calls k1 (a0.extract (x5_1 : Int).toNat a0.size) t320 t321 t322 t323 _ A5.out).mono ?_); rintro e w7 ⟨rfl, hb⟩; refine ⟨_, rfl, ?_⟩; have n0_ := Aside0.mk (Kd.R_below (qR HO_4.out) hb); have n1_ := wH hb; clear HO_4; clear HB; have HO_4 := n0_; have HB := n1_; clear n0_ n1_; (try clear hb); (try clear hb2); (try clear hk); (try clear hi)) | ((with_reducible refine gate_dst (N := 6) rfl ?_); refine bE (N := 6) (cs := #[.bool false, .string (⟨#[]⟩ : ByteArray), .string (⟨#[]⟩ : ByteArray)]) (t := 45) ?_; intro gb324 hg w8 hbox hb; have n0_ := Aside0.mk (Kd.R_below (Kd.R_elderB (qR HO_4.out) gb324 (Nat.le_of_eq hg.symm)) hb); have n1_ := wH hb; have n2_ := Aside0.mk (hbox); have n3_ := Aside0.mk ((qG hg)); have n4_ := Aside0.mk ((qG hg)); clear HO_4; clear HB; have HO_4 := n0_; have HB := n1_; have BK324 := n2_; have GE324 := n4_; clear n0_ n1_ n2_ n3_ n4_; clear hb hbox hg; obtain ⟨hcz9_0, hcz9_1, hcz9_2, hfz9_0, hfz9_1, hfz9_2⟩ := e3_ BK324))
       go_ret2
       exact ⟨_, eX, by first | exact Kd.R_nil _ _ _ _ _ | exact Kd.N_nil _ _ _ _ _ | exact Kd.V_nil _ _ _ _ _ | exact Kd.Q_nil _ _ _ _ _ | exact Kd.S_nil _ _ _ _ _, qH⟩
      ·rw [if_neg c6] at H
       have c6b0 : (t323 == 0) = false := beq_eq_false_iff_ne.mpr c6
       have c6b1 : (t323 != 0) = true := bne_iff_ne.mpr c6
       by_cases c10 : x4_1.length < 3518437208883
       ·rw [if_pos c10] at H
        have LMc10 := Aside0.mk c10
        clear c10
        obtain ⟨y325, hy325⟩ : ∃ y_ : List (S45), y_ = (x4_1 ++ [(⟨t320, t321, t322⟩ : S45)]) := ⟨_, rfl⟩
        replace H : (armadaref05_Decode.l0 k1 a0 y325 (wrap64 (x5_1 + t323))) = some (r1, r2) := by first | (rw [hy325]; with_reducible exact H) | (have H2_ := (Option.bind_some _ _).symm.trans H; rw [hy325]; with_reducible exact H2_) | (have H2_ := (Option.bind_some _ _).symm.trans H; with_reducible exact H2_) | with_reducible exact H | (rw [hy325]; exact H) | exact H
        have Ny325 := Aside0.mk hy325
        clear hy325
        have H' := Aside0.mk H
        clear H
        go_wp2_with (first | ((with_reducible refine gate_callee (f := 50) rfl ?_); refine gL (some 18) Tryd.func50 #[.string (a0.extract (x5_1 : Int).toNat a0.size)] ?_; (with_reducible refine (armadaref05_one.calls k1 (a0.extract (x5_1 : Int).toNat a0.size) t320 t321 t322 t323 _ A5.out).mono ?_); rintro e w11 ⟨rfl, hb⟩; refine ⟨_, rfl, ?_⟩; have n0_ := Aside0.mk (Kd.R_below (qR HO_4.out) hb); have n1_ := wH hb; clear HO_4; clear HB; have HO_4 := n0_; have HB := n1_; clear n0_ n1_; (try clear hb); (try clear hb2); (try clear hk); (try clear hi)) | ((with_reducible refine gate_dst (N := 6) rfl ?_); refine bE (N := 6) (cs := #[.bool false, .string (⟨#[]⟩ : ByteArray), .string (⟨#[]⟩ : ByteArray)]) (t := 45) ?_; intro gb324 hg w12 hbox hb; have n0_ := Aside0.mk (Kd.R_below (Kd.R_elderB (qR HO_4.out) gb324 (Nat.le_of_eq hg.symm)) hb); have n1_ := wH hb; have n2_ := Aside0.mk (hbox); have n3_ := Aside0.mk ((qG hg)); have n4_ := Aside0.mk ((qG hg)); clear HO_4; clear HB; have HO_4 := n0_; have HB := n1_; have BK324 := n2_; have GE324 := n4_; clear n0_ n1_ n2_ n3_ n4_; clear hb hbox hg; obtain ⟨hcz13_0, hcz13_1, hcz13_2, hfz13_0, hfz13_1, hfz13_2⟩ := e3_ BK324) | ((with_reducible refine gate_builtin (b := .append) (xs := #[.tmp 23, .tmp 25]) rfl ?_); at_builtin; refine Kd.R_append k45 (w0 := w) w.heap.size rfl (.tmp 23) (.tmp 25) 30 45 (.agg #[(.bool false), (.string ⟨#[]⟩), (.string ⟨#[]⟩)]) 40 rfl Tryd.underlying30 info45 rfl (by decide) (by omega) u4 x4_1 (⟨t320, t321, t322⟩ : S45) [.bool t320, .string t321, .string t322] (fun k_ => k_ ≠ gb324) (fun _ => False) rfl (by first | (go_simp; done) | (go_simp; rfl)) ?aP (fun _ hk => hk.elim) ?aF ?aO ?aB ?aS ?aL ?_; (case aP => exact k45_mkM _ _ _ (⟨t320, t321, t322⟩ : S45)); (case aB => exact qH); (case aF => exact (fun k_ hk => Kd.freshB (g := gb324) (o := .cells #[.bool t320, .string t321, .string t322] 45 (0, 0)) (by (with_reducible repeat (first | apply xN_ | apply xD_ | apply xA_)); refine blk_put (cs := #[.bool t320, .string t321, .string (⟨#[]⟩ : ByteArray)]) ?_ 2 _ rfl; refine blk_put (cs := #[.bool t320, .string (⟨#[]⟩ : ByteArray), .string (⟨#[]⟩ : ByteArray)]) ?_ 1 _ rfl; refine blk_put (cs := #[.bool false, .string (⟨#[]⟩ : ByteArray), .string (⟨#[]⟩ : ByteArray)]) ?_ 0 _ rfl; (with_reducible repeat (first | apply xN_ | apply xD_ | apply xA_)); exact BK324.out) k_ hk)); (case aO => exact (qR (Kd.R_mono (Kd.R_far (p := ⟨gb324, 2, none⟩) (Kd.R_far (p := ⟨gb324, 1, none⟩) (Kd.R_far (p := ⟨gb324, 0, none⟩) (Kd.R_mono HO_4.out (fun k_ hk => (⟨hk, hk.2⟩ : _ ∧ k_ ≠ gb324))) (fun _ hk => hk.2) (.bool t320)) (fun _ hk => hk.2) (.string t321)) (fun _ hk => hk.2) (.string t322)) (fun _ hk => hk.1.2)))); (case aS => exact (below_size qH)); (case aL => have := LMc10.out; omega); intro v326 w14 ho hb hg hat; rw [← Ny325.out] at ho; have n0_ := Aside0.mk (blk_grown (g := gb324) (o := .cells #[.bool t320, .string t321, .string t322] 45 (0, 0)) (by (with_reducible repeat (first | apply xN_ | apply xD_ | apply xA_)); refine blk_put (cs := #[.bool t320, .string t321, .string (⟨#[]⟩ : ByteArray)]) ?_ 2 _ rfl; refine blk_put (cs := #[.bool t320, .string (⟨#[]⟩ : ByteArray), .string (⟨#[]⟩ : ByteArray)]) ?_ 1 _ rfl; refine blk_put (cs := #[.bool false, .string (⟨#[]⟩ : ByteArray), .string (⟨#[]⟩ : ByteArray)]) ?_ 0 _ rfl; (with_reducible repeat (first | apply xN_ | apply xD_ | apply xA_)); exact BK324.out) hg (Kd.R_away HO_4.out (fun _ hk => hk.2))); have n1_ := Aside0.mk (hb); have n2_ := Aside0.mk (ho); clear BK324; clear HB; clear HO_4; have BK324 := n0_; have HB := n1_; have HO327 := n2_; clear n0_ n1_ n2_; clear ho hb hg hat))
        go_roundg k1
        case measure => have := HK1.out; omega
        case rel => exact ⟨(y325), (wrap64 (x5_1 + t323)), eY, H', ⟨by have := HK1.out; omega⟩, ⟨by (with_reducible repeat (first | apply Kd.R_alloc | apply Kd.R_drewN | apply Kd.R_drew)); exact Kd.R_mono HO327.out (fun _ hk => trivial)⟩, ⟨qH⟩⟩
       ·rw [if_neg c10] at H
        exact absurd H (by simp)
     ·rw [if_neg c4] at H
      exact absurd H (by simp)
    ·rw [if_neg c3] at H
     exact absurd H (by simp)
   ·rw [if_neg c2] at H
    have c2b0 : decide (x5_1 < (a0.size : Int)) = false := decide_eq_false c2
    clear c2
    replace H := Option.bind_eq_some_iff.mp H
    obtain ⟨⟨t328, t329⟩, A150, H⟩ := H
    try dsimp only at H
    have A15 := Aside0.mk A150
    clear A150
    by_cases c16 : t329 = 0
    ·rw [if_pos c16] at H
     have c16b0 : (t329 == 0) = true := beq_iff_eq.mpr c16
     have c16b1 : (t329 != 0) = false := bne_eq_false_iff_eq.mpr c16
     clear c16
     by_cases c17 : t328.toList = a0.toList
     ·rw [if_pos c17] at H
      have c17b0 : (t328.toList == a0.toList) = true := beq_iff_eq.mpr c17
      have c17b1 : (t328.toList != a0.toList) = false := bne_eq_false_iff_eq.mpr c17
      clear c17
      simp only [Option.some.injEq, Prod.mk.injEq] at H
      obtain ⟨rfl, rfl⟩ := H
      obtain ⟨Ao18, co18, eo18⟩ := Kd.R_slice HO_4.out
      subst eo18
      go_wp2_with (first | ((with_reducible refine gate_callee (f := 27) rfl ?_); refine gL (some 32) Tryd.func27 #[.slice Ao18 x4_1.length co18] ?_; (with_reducible refine (armadaref05_Encode.calls k1 _ _ x4_1 t328 t329 _ ?side1 ?side2 A15.out).mono ?_); (case side1 => exact qK (Kd.R_reads' HO_4.out).2.2); (case side2 => exact (Kd.R_reads' HO_4.out).2.1); rintro e w19 ⟨rfl, hb⟩; refine ⟨_, rfl, ?_⟩; have n0_ := Aside0.mk (Kd.R_below (qR HO_4.out) hb); have n1_ := wH hb; clear HO_4; clear HB; have HO_4 := n0_; have HB := n1_; clear n0_ n1_; (try clear hb); (try clear hb2); (try clear hk); (try clear hi)))
      go_ret2
      exact ⟨_, eX, qR HO_4.out, qH⟩
     ·rw [if_neg c17] at H
      have c17b0 : (t328.toList == a0.toList) = false := beq_eq_false_iff_ne.mpr c17
      have c17b1 : (t328.toList != a0.toList) = true := bne_iff_ne.mpr c17
      simp only [Option.some.injEq, Prod.mk.injEq] at H
      obtain ⟨rfl, rfl⟩ := H
      obtain ⟨Ao20, co20, eo20⟩ := Kd.R_slice HO_4.out
      subst eo20
      go_wp2_with (first | ((with_reducible refine gate_callee (f := 27) rfl ?_); refine gL (some 32) Tryd.func27 #[.slice Ao20 x4_1.length co20] ?_; (with_reducible refine (armadaref05_Encode.calls k1 _ _ x4_1 t328 t329 _ ?side1 ?side2 A15.out).mono ?_); (case side1 => exact qK (Kd.R_reads' HO_4.out).2.2); (case side2 => exact (Kd.R_reads' HO_4.out).2.1); rintro e w21 ⟨rfl, hb⟩; refine ⟨_, rfl, ?_⟩; have n0_ := Aside0.mk (Kd.R_below (qR HO_4.out) hb); have n1_ := wH hb; clear HO_4; clear HB; have HO_4 := n0_; have HB := n1_; clear n0_ n1_; (try clear hb); (try clear hb2); (try clear hk); (try clear hi)))
      go_ret2
      exact ⟨_, eX, by first | exact Kd.R_nil _ _ _ _ _ | exact Kd.N_nil _ _ _ _ _ | exact Kd.V_nil _ _ _ _ _ | exact Kd.Q_nil _ _ _ _ _ | exact Kd.S_nil _ _ _ _ _, qH⟩
    ·rw [if_neg c16] at H
     have c16b0 : (t329 == 0) = false := beq_eq_false_iff_ne.mpr c16
     have c16b1 : (t329 != 0) = true := bne_iff_ne.mpr c16
     simp only [Option.some.injEq, Prod.mk.injEq] at H
     obtain ⟨rfl, rfl⟩ := H
     obtain ⟨Ao22, co22, eo22⟩ := Kd.R_slice HO_4.out
     subst eo22
     go_wp2_with (first | ((with_reducible refine gate_callee (f := 27) rfl ?_); refine gL (some 32) Tryd.func27 #[.slice Ao22 x4_1.length co22] ?_; (with_reducible refine (armadaref05_Encode.calls k1 _ _ x4_1 t328 t329 _ ?side1 ?side2 A15.out).mono ?_); (case side1 => exact qK (Kd.R_reads' HO_4.out).2.2); (case side2 => exact (Kd.R_reads' HO_4.out).2.1); rintro e w23 ⟨rfl, hb⟩; refine ⟨_, rfl, ?_⟩; have n0_ := Aside0.mk (Kd.R_below (qR HO_4.out) hb); have n1_ := wH hb; clear HO_4; clear HB; have HB := n1_; clear n0_ n1_; (try clear hb); (try clear hb2); (try clear hk); (try clear hi)))
     go_ret2
     exact ⟨_, eX, by first | exact Kd.R_nil _ _ _ _ _ | exact Kd.N_nil _ _ _ _ _ | exact Kd.V_nil _ _ _ _ _ | exact Kd.Q_nil _ _ _ _ _ | exact Kd.S_nil _ _ _ _ _, qH⟩
end Go.Proofs.YtnhhbmekjoanbaaDoor.P
