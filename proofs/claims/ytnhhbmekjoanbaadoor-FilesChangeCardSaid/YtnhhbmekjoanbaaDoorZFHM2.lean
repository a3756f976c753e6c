/- Printed functions, merged. -/
import Derived.Test.YtnhhbmekjoanbaaDoorZFHM0
import Derived.Test.YtnhhbmekjoanbaaDoorZFHH3
import Derived.Test.YtnhhbmekjoanbaaDoorZFHAl
namespace Go.Proofs.YtnhhbmekjoanbaaDoor.P
open Go.RowKit Go.Proofs.YtnhhbmekjoanbaaDoorW.PrintWords Go.Proofs.YtnhhbmekjoanbaaDoorW.PrintLast Go.Proofs.YtnhhbmekjoanbaaDoorW.PrintMore
attribute [local go_sem] max2_int min2_int max_two min_two max_three min_three max_four min_four   -- for this text's walks alone
set_option linter.unusedVariables false
set_option linter.unusedSimpArgs false
section
attribute [local go_sem high] geq_str
def armadaref05_May.l0 : Nat → List (S49) → Int → Option (Bool)
 | 0, _, _ => none
 | k + 1, x0, x3 => if x3 < (x0.length : Int) then (if 0 ≤ x3 then ((armadaref05_Path.f k ((rd_T49 x0 x3).f0)).bind fun t196 => (if t196 = true then (if (((rd_T49 x0 x3).f1).size : Int) > 4096 then (some false) else (if x3 > 0 then (if 0 ≤ (wrap64 (x3 - 1)) then (if (wrap64 (x3 - 1)) < (x0.length : Int) then (if ((Op.bytesLess (((rd_T49 x0 (wrap64 (x3 - 1))).f0).toList) (((rd_T49 x0 x3).f0).toList)) = true) then (armadaref05_May.l0 k x0 (wrap64 (x3 + 1))) else (some false)) else (none)) else (none)) else (armadaref05_May.l0 k x0 (wrap64 (x3 + 1))))) else (some false))) else (none)) else (some (decide ((x0.length : Int) ≤ 40)))
def armadaref05_May.f (k : Nat) (l0 : List (S49)) : Option (Bool) := armadaref05_May.l0 k l0 0
theorem armadaref05_May.mono_l : ∀ k, (∀ y0 y1, LeO (armadaref05_May.l0 k y0 y1) (armadaref05_May.l0 (k + 1) y0 y1))
 | 0 => fun _ _ r h => by simp [armadaref05_May.l0] at h
 | k + 1 => by
  have ih0 := armadaref05_May.mono_l k
  ·intro y0 y1
   unfold armadaref05_May.l0
   repeat' first
   | (with_reducible exact ih0 _ _)
   | (with_reducible exact armadaref05_Path.mono _ _)
   | (with_reducible exact LeO.refl _)
   | (with_reducible exact LeO.none _)
   | (with_reducible refine LeO.ite ?_ ?_)
   | (with_reducible refine LeO.bind ?_ (fun _ => ?_))
   | exact ih0 _ _
   | exact armadaref05_Path.mono _ _
   | exact LeO.none _
   | refine LeO.ite ?_ ?_
   | refine LeO.bind ?_ (fun _ => ?_)
theorem armadaref05_May.mono : ∀ a0 k, LeO (armadaref05_May.f k a0) (armadaref05_May.f (k + 1) a0) := by
 intro a0 k
 have ih0 := armadaref05_May.mono_l k
 unfold armadaref05_May.f
 repeat' first
   | (with_reducible exact ih0 _ _)
   | (with_reducible exact armadaref05_Path.mono _ _)
   | (with_reducible exact LeO.refl _)
   | (with_reducible exact LeO.none _)
   | (with_reducible refine LeO.ite ?_ ?_)
   | (with_reducible refine LeO.bind ?_ (fun _ => ?_))
   | exact ih0 _ _
   | exact armadaref05_Path.mono _ _
   | exact LeO.none _
   | refine LeO.ite ?_ ?_
   | refine LeO.bind ?_ (fun _ => ?_)
def armadaref05_May.T4 : Bool × List (List Nat × List Nat) := (true, [([], []), ([], []), ([0, 1], [0, 1]), ([2], [2]), ([3], [3]), ([4], [4]), ([5], [5]), ([6, 5], [6]), ([7], [7]), ([7], [7]), ([8, 9, 7], [7, 8, 9]), ([10, 7], [7, 10]), ([11, 7], [7, 11]), ([12, 7], [7, 12]), ([13, 7], [7, 13]), ([7, 14], [7, 14]), ([15, 7], [15]), ([16], [16]), ([17, 16], [16, 17]), ([18, 16, 16], [16, 18]), ([19], [19]), ([19], [19]), ([21, 19], [19, 21]), ([20, 22, 19], [19, 20, 22]), ([23, 19], [19, 23]), ([24, 19], [19, 24]), ([19], [19]), ([19], [19]), ([26, 27, 19], [19, 26, 27]), ([28, 19], [19, 28]), ([29, 19], [19, 29]), ([25, 30, 19], [19, 25, 30]), ([19, 31, 16], [16, 19, 31]), ([16, 32], [16, 32])])
def armadaref05_May.B4 : List Nat := [0, 0, 3, 7, 15, 31, 63, 127, 255, 255, 1023, 2047, 4095, 8191, 16383, 32767, 65535, 131071, 262143, 524287, 1048575, 1048575, 3145727, 8388607, 16777215, 33554431, 1048575, 1048575, 202375167, 470810623, 1007681535, 2147483647, 4294967295, 8589934591]
theorem armadaref05_May.tab4 : rtab .any (opsOf Tryd.f17 4) = armadaref05_May.T4 := by kernel_rfl
theorem armadaref05_May.bits4 : waitsOk armadaref05_May.T4.2 armadaref05_May.B4 = true := by kernel_rfl
set_option maxHeartbeats 8000000 in
set_option maxRecDepth 100000 in
theorem armadaref05_May.calls (k : Nat) (A0 : Option Addr) (c0 : Nat) (l0 : List (S49)) (r : Bool) (w : World) (hr0 : Kd.C k49 w A0 l0.length l0) (hc0 : l0.length ≤ c0) (h : armadaref05_May.f k l0 = some r) :
  Calls Tryd.prog 17 #[.slice A0 l0.length c0] w fun e w' => e = .returned (.bool r) ∧ Below w.heap.size w w' := by
 have HR0 := Aside0.mk hr0
 have HC0 := Aside0.mk hc0
 clear hr0 hc0
 have HB := Aside0.mk (Below.refl w.heap.size w)
 have H : (armadaref05_May.l0 k l0 0) = some r := h
 clear h
 have H' := Aside0.mk H
 clear H
 go_enter Tryd.func17, Tryd.ntmps17
 go_wp2
 go_loopg [3] k (fun kq v3 w' => ∃ (x3_1 : Int), v3 = .int .i64 x3_1 ∧ Aside0 (armadaref05_May.l0 kq l0 x3_1 = some r) ∧ Aside0 (kq ≤ k) ∧ Aside0 (Below w.heap.size w w'))
 case atStart => exact ⟨(0), eY, H', ⟨Nat.le_refl _⟩, ⟨qH⟩⟩
 case round =>
  clear H'
  obtain ⟨x3_1, rfl, HA, HK1, HB⟩ := hrel
  cases gk with
  | zero => exact absurd HA.out (by simp [armadaref05_May.l0])
  | succ k1 =>
   have H := HA.out
   clear HA
   simp only [armadaref05_May.l0] at H
   by_cases c2 : x3_1 < (l0.length : Int)
   ·rw [if_pos c2] at H
    have c2b0 : decide (x3_1 < (l0.length : Int)) = true := decide_eq_true c2
    clear c2
    by_cases c3 : 0 ≤ x3_1
    ·rw [if_pos c3] at H
     have c3b0 : decide (0 ≤ x3_1) = true := decide_eq_true c3
     clear c3
     replace H := Option.bind_eq_some_iff.mp H
     obtain ⟨t196, A40, H⟩ := H
     try dsimp only at H
     have A4 := Aside0.mk A40
     clear A40
     by_cases c5 : t196 = true
     ·subst c5
      rw [if_pos rfl] at H
      by_cases c6 : (((rd_T49 l0 x3_1).f1).size : Int) > 4096
      ·rw [if_pos c6] at H
       have c6b0 : decide (4096 < (((rd_T49 l0 x3_1).f1).size : Int)) = true := decide_eq_true c6
       have c6b1 : decide (4096 < ((rd_T49 l0 x3_1).f1).size) = true := decide_eq_true (by omega)
       clear c6
       obtain rfl := Option.some.inj H
       try go_wp2
       have n0_ := Aside0.mk (yD_ HB.out)
       clear HB
       have HB := n0_
       clear n0_
       have p195 : 0 ≤ (x3_1 : Int) := of_decide_eq_true aS
       have q195 : x3_1 < (l0.length : Int) := of_decide_eq_true aS
       obtain ⟨ad195, e195, hx195_0, hx195_1⟩ := at_T49 HR0.out x3_1 p195 q195
       have hw195_1 := hx195_1
       have hw195_0 := hx195_0
       cases e195
       replace hx195_0 := (HB.out.cell (World.block_lt_of_cell? w _ hx195_0)).trans hx195_0
       replace hx195_1 := (HB.out.cell (World.block_lt_of_cell? w _ hx195_1)).trans hx195_1
       replace p195 := eq_true p195
       replace q195 := eq_true q195
       have p197 : 0 ≤ (x3_1 : Int) := of_decide_eq_true aS
       have q197 : x3_1 < (l0.length : Int) := of_decide_eq_true aS
       obtain ⟨ad197, e197, hx197_0, hx197_1⟩ := at_T49 HR0.out x3_1 p197 q197
       have hw197_1 := hx197_1
       have hw197_0 := hx197_0
       obtain rfl : ad195 = ad197 := (by injection e197)
       replace hx197_0 := (HB.out.cell (World.block_lt_of_cell? w _ hx197_0)).trans hx197_0
       replace hx197_1 := (HB.out.cell (World.block_lt_of_cell? w _ hx197_1)).trans hx197_1
       replace p197 := eq_true p197
       replace q197 := eq_true q197
       refine start_ (n := 34) (S := fun w' => w'.cell? (ad195.add ((x3_1).toNat * 2)) = some (.string ((rd_T49 l0 x3_1).f0)) ∧ w'.cell? ⟨(ad195.add ((x3_1).toNat * 2)).block, (ad195.add ((x3_1).toNat * 2)).off + 1, none⟩ = some (.string ((rd_T49 l0 x3_1).f1)) ∧ w'.cell? (ad195.add ((x3_1).toNat * 2)) = some (.string ((rd_T49 l0 x3_1).f0)) ∧ w'.cell? ⟨(ad195.add ((x3_1).toNat * 2)).block, (ad195.add ((x3_1).toNat * 2)).off + 1, none⟩ = some (.string ((rd_T49 l0 x3_1).f1))) (ds := []) #[F_,F_,F_,F_,F_,F_,F_,F_,F_,F_,F_,F_,F_,F_,F_,F_,F_,F_,F_,F_,F_,F_,F_,F_,F_,F_,F_,F_,F_,F_,F_,F_,F_,F_] (by kernel_rfl) rfl rfl ⟨((HB.out.cell (World.block_lt_of_cell? w _ hw195_0)).trans hw195_0), ((HB.out.cell (World.block_lt_of_cell? w _ hw195_1)).trans hw195_1), ((HB.out.cell (World.block_lt_of_cell? w _ hw197_0)).trans hw197_0), ((HB.out.cell (World.block_lt_of_cell? w _ hw197_1)).trans hw197_1)⟩ (fun hHeld => ?_); refine with_tabW armadaref05_May.tab4 armadaref05_May.bits4 (fun HT_ HW_ => ?_)
       generalize wr.drew = w7 at HB hx195_0 hx195_1 hx197_0 hx197_1 hHeld ⊢
       refine pU 0 (some 10) #[T_,F_,F_,F_,F_,F_,F_,F_,F_,F_,F_,F_,F_,F_,F_,F_,F_,F_,F_,F_,F_,F_,F_,F_,F_,F_,F_,F_,F_,F_,F_,F_,F_,F_] HT_ ?_
       refine pU 1 (some 11) #[T_,T_,F_,F_,F_,F_,F_,F_,F_,F_,F_,F_,F_,F_,F_,F_,F_,F_,F_,F_,F_,F_,F_,F_,F_,F_,F_,F_,F_,F_,F_,F_,F_,F_] HT_ ?_
       refine pU 2 (some 12) #[T_,T_,T_,F_,F_,F_,F_,F_,F_,F_,F_,F_,F_,F_,F_,F_,F_,F_,F_,F_,F_,F_,F_,F_,F_,F_,F_,F_,F_,F_,F_,F_,F_,F_] HT_ ?_
       refine pU 3 (some 13) #[T_,T_,T_,T_,F_,F_,F_,F_,F_,F_,F_,F_,F_,F_,F_,F_,F_,F_,F_,F_,F_,F_,F_,F_,F_,F_,F_,F_,F_,F_,F_,F_,F_,F_] HT_ ?_
       refine tK 4 (some 14) #[T_,T_,T_,T_,T_,F_,F_,F_,F_,F_,F_,F_,F_,F_,F_,F_,F_,F_,F_,F_,F_,F_,F_,F_,F_,F_,F_,F_,F_,F_,F_,F_,F_,F_] HT_ HW_ hHeld ?_
       refine oN 5 (some 15) #[T_,T_,T_,T_,T_,T_,F_,F_,F_,F_,F_,F_,F_,F_,F_,F_,F_,F_,F_,F_,F_,F_,F_,F_,F_,F_,F_,F_,F_,F_,F_,F_,F_,F_] HT_ (fun K hK => ?_)
       refine gO Tryd.func15 #[.string ((rd_T49 l0 x3_1).f0)] ?_
       with_reducible refine (armadaref05_Path.calls k1 ((rd_T49 l0 x3_1).f0) true _ A4.out).mono ?_
       rintro e w8 ⟨rfl, hb⟩
       refine ⟨_, rfl, ?_⟩
       have n0_ := wH hb
       clear HB
       have HB := n0_
       clear n0_
       (try clear hb)
       (try clear hb2)
       (try clear hk)
       (try clear hi)
       refine hK.out _ _ ⟨((HB.out.cell (World.block_lt_of_cell? w _ hw195_0)).trans hw195_0), ((HB.out.cell (World.block_lt_of_cell? w _ hw195_1)).trans hw195_1), ((HB.out.cell (World.block_lt_of_cell? w _ hw197_0)).trans hw197_0), ((HB.out.cell (World.block_lt_of_cell? w _ hw197_1)).trans hw197_1)⟩ (fun hHeld => ?_)
       clear hK K
       refine nS (some 15) ?_
       refine pU 6 (some 16) #[T_,T_,T_,T_,T_,T_,T_,F_,F_,F_,F_,F_,F_,F_,F_,F_,F_,F_,F_,F_,F_,F_,F_,F_,F_,F_,F_,F_,F_,F_,F_,F_,F_,F_] HT_ ?_
       refine pU 7 (some 17) #[T_,T_,T_,T_,T_,T_,T_,T_,F_,F_,F_,F_,F_,F_,F_,F_,F_,F_,F_,F_,F_,F_,F_,F_,F_,F_,F_,F_,F_,F_,F_,F_,F_,F_] HT_ ?_
       refine pU 8 (some 18) #[T_,T_,T_,T_,T_,T_,T_,T_,T_,F_,F_,F_,F_,F_,F_,F_,F_,F_,F_,F_,F_,F_,F_,F_,F_,F_,F_,F_,F_,F_,F_,F_,F_,F_] HT_ ?_
       refine pU 9 (some 19) #[T_,T_,T_,T_,T_,T_,T_,T_,T_,T_,F_,F_,F_,F_,F_,F_,F_,F_,F_,F_,F_,F_,F_,F_,F_,F_,F_,F_,F_,F_,F_,F_,F_,F_] HT_ ?_
       refine pU 10 (some 20) #[T_,T_,T_,T_,T_,T_,T_,T_,T_,T_,T_,F_,F_,F_,F_,F_,F_,F_,F_,F_,F_,F_,F_,F_,F_,F_,F_,F_,F_,F_,F_,F_,F_,F_] HT_ ?_
       refine pU 11 (some 21) #[T_,T_,T_,T_,T_,T_,T_,T_,T_,T_,T_,T_,F_,F_,F_,F_,F_,F_,F_,F_,F_,F_,F_,F_,F_,F_,F_,F_,F_,F_,F_,F_,F_,F_] HT_ ?_
       refine tK 12 (some 22) #[T_,T_,T_,T_,T_,T_,T_,T_,T_,T_,T_,T_,T_,F_,F_,F_,F_,F_,F_,F_,F_,F_,F_,F_,F_,F_,F_,F_,F_,F_,F_,F_,F_,F_] HT_ HW_ hHeld ?_
       refine pU 13 (some 23) #[T_,T_,T_,T_,T_,T_,T_,T_,T_,T_,T_,T_,T_,T_,F_,F_,F_,F_,F_,F_,F_,F_,F_,F_,F_,F_,F_,F_,F_,F_,F_,F_,F_,F_] HT_ ?_
       refine pU 14 (some 24) #[T_,T_,T_,T_,T_,T_,T_,T_,T_,T_,T_,T_,T_,T_,T_,F_,F_,F_,F_,F_,F_,F_,F_,F_,F_,F_,F_,F_,F_,F_,F_,F_,F_,F_] HT_ ?_
       refine pU 15 (some 25) #[T_,T_,T_,T_,T_,T_,T_,T_,T_,T_,T_,T_,T_,T_,T_,T_,F_,F_,F_,F_,F_,F_,F_,F_,F_,F_,F_,F_,F_,F_,F_,F_,F_,F_] HT_ ?_
       refine pU 16 (some 26) #[T_,T_,T_,T_,T_,T_,T_,T_,T_,T_,T_,T_,T_,T_,T_,T_,T_,F_,F_,F_,F_,F_,F_,F_,F_,F_,F_,F_,F_,F_,F_,F_,F_,F_] HT_ ?_
       refine pN 17 (some 27) #[T_,T_,T_,T_,T_,T_,T_,T_,T_,T_,T_,T_,T_,T_,T_,T_,T_,T_,F_,F_,F_,F_,F_,F_,F_,F_,F_,F_,F_,F_,F_,F_,F_,F_] HT_ ?_
       refine pN 18 (some 28) #[T_,T_,T_,T_,T_,T_,T_,T_,T_,T_,T_,T_,T_,T_,T_,T_,T_,T_,T_,F_,F_,F_,F_,F_,F_,F_,F_,F_,F_,F_,F_,F_,F_,F_] HT_ ?_
       refine pN 19 (some 29) #[T_,T_,T_,T_,T_,T_,T_,T_,T_,T_,T_,T_,T_,T_,T_,T_,T_,T_,T_,T_,F_,F_,F_,F_,F_,F_,F_,F_,F_,F_,F_,F_,F_,F_] HT_ ?_
       refine pN 20 (some 30) #[T_,T_,T_,T_,T_,T_,T_,T_,T_,T_,T_,T_,T_,T_,T_,T_,T_,T_,T_,T_,T_,F_,F_,F_,F_,F_,F_,F_,F_,F_,F_,F_,F_,F_] HT_ ?_
       refine pN 21 (some 31) #[T_,T_,T_,T_,T_,T_,T_,T_,T_,T_,T_,T_,T_,T_,T_,T_,T_,T_,T_,T_,T_,T_,F_,F_,F_,F_,F_,F_,F_,F_,F_,F_,F_,F_] HT_ ?_
       refine pN 22 (some 32) #[T_,T_,T_,T_,T_,T_,T_,T_,T_,T_,T_,T_,T_,T_,T_,T_,T_,T_,T_,T_,T_,T_,T_,F_,F_,F_,F_,F_,F_,F_,F_,F_,F_,F_] HT_ ?_
       refine pN 23 (some 33) #[T_,T_,T_,T_,T_,T_,T_,T_,T_,T_,T_,T_,T_,T_,T_,T_,T_,T_,T_,T_,T_,T_,T_,T_,F_,F_,F_,F_,F_,F_,F_,F_,F_,F_] HT_ ?_
       refine pN 24 (some 34) #[T_,T_,T_,T_,T_,T_,T_,T_,T_,T_,T_,T_,T_,T_,T_,T_,T_,T_,T_,T_,T_,T_,T_,T_,T_,F_,F_,F_,F_,F_,F_,F_,F_,F_] HT_ ?_
       refine pN 25 (some 35) #[T_,T_,T_,T_,T_,T_,T_,T_,T_,T_,T_,T_,T_,T_,T_,T_,T_,T_,T_,T_,T_,T_,T_,T_,T_,T_,F_,F_,F_,F_,F_,F_,F_,F_] HT_ ?_
       refine pN 26 (some 36) #[T_,T_,T_,T_,T_,T_,T_,T_,T_,T_,T_,T_,T_,T_,T_,T_,T_,T_,T_,T_,T_,T_,T_,T_,T_,T_,T_,F_,F_,F_,F_,F_,F_,F_] HT_ ?_
       refine pN 27 (some 37) #[T_,T_,T_,T_,T_,T_,T_,T_,T_,T_,T_,T_,T_,T_,T_,T_,T_,T_,T_,T_,T_,T_,T_,T_,T_,T_,T_,T_,F_,F_,F_,F_,F_,F_] HT_ ?_
       refine pN 28 (some 38) #[T_,T_,T_,T_,T_,T_,T_,T_,T_,T_,T_,T_,T_,T_,T_,T_,T_,T_,T_,T_,T_,T_,T_,T_,T_,T_,T_,T_,T_,F_,F_,F_,F_,F_] HT_ ?_
       refine pN 29 (some 39) #[T_,T_,T_,T_,T_,T_,T_,T_,T_,T_,T_,T_,T_,T_,T_,T_,T_,T_,T_,T_,T_,T_,T_,T_,T_,T_,T_,T_,T_,T_,F_,F_,F_,F_] HT_ ?_
       refine pN 30 (some 40) #[T_,T_,T_,T_,T_,T_,T_,T_,T_,T_,T_,T_,T_,T_,T_,T_,T_,T_,T_,T_,T_,T_,T_,T_,T_,T_,T_,T_,T_,T_,T_,F_,F_,F_] HT_ ?_
       refine pN 31 (some 41) #[T_,T_,T_,T_,T_,T_,T_,T_,T_,T_,T_,T_,T_,T_,T_,T_,T_,T_,T_,T_,T_,T_,T_,T_,T_,T_,T_,T_,T_,T_,T_,T_,F_,F_] HT_ ?_
       refine pN 32 (some 42) #[T_,T_,T_,T_,T_,T_,T_,T_,T_,T_,T_,T_,T_,T_,T_,T_,T_,T_,T_,T_,T_,T_,T_,T_,T_,T_,T_,T_,T_,T_,T_,T_,T_,F_] HT_ ?_
       refine pU 33 (some 43) #[T_,T_,T_,T_,T_,T_,T_,T_,T_,T_,T_,T_,T_,T_,T_,T_,T_,T_,T_,T_,T_,T_,T_,T_,T_,T_,T_,T_,T_,T_,T_,T_,T_,T_] HT_ ?_
       refine done_ (done_of HT_.out (by kernel_rfl)) ?_
       try go_wp2
       go_ret
       exact ⟨eX, qH⟩
      ·rw [if_neg c6] at H
       have c6b0 : decide (4096 < (((rd_T49 l0 x3_1).f1).size : Int)) = false := decide_eq_false c6
       have c6b1 : decide (4096 < ((rd_T49 l0 x3_1).f1).size) = false := decide_eq_false (by omega)
       clear c6
       by_cases c9 : x3_1 > 0
       ·rw [if_pos c9] at H
        have c9b0 : decide (0 < x3_1) = true := decide_eq_true c9
        clear c9
        obtain ⟨ji10, hji10⟩ : ∃ j_ : Int, (wrap64 (x3_1 - 1)) = j_ := ⟨_, rfl⟩
        replace H : (if 0 ≤ (ji10) then (if (ji10) < (l0.length : Int) then (if ((Op.bytesLess (((rd_T49 l0 (ji10)).f0).toList) (((rd_T49 l0 x3_1).f0).toList)) = true) then (armadaref05_May.l0 k1 l0 (wrap64 (x3_1 + 1))) else (some false)) else (none)) else (none)) = some r := by first | (rw [hji10] at H; exact H) | (simp only [hji10] at H ⊢; exact H)
        (try rw [hji10] at A4)
        have hji10w : (IntKind.i64.wrap (x3_1 - 1)) = ji10 := (i64_w _).trans hji10
        by_cases c11 : 0 ≤ (ji10)
        ·rw [if_pos c11] at H
         have c11b0 : decide (0 ≤ (ji10)) = true := decide_eq_true c11
         clear c11
         by_cases c12 : (ji10) < (l0.length : Int)
         ·rw [if_pos c12] at H
          have c12b0 : decide ((ji10) < (l0.length : Int)) = true := decide_eq_true c12
          clear c12
          by_cases c13 : ((Op.bytesLess (((rd_T49 l0 (ji10)).f0).toList) (((rd_T49 l0 x3_1).f0).toList)) = true)
          ·rw [if_pos c13] at H
           have c13b0 : (Op.bytesLess (((rd_T49 l0 (ji10)).f0).toList) (((rd_T49 l0 x3_1).f0).toList)) = true := c13
           clear c13
           have H' := Aside0.mk H
           clear H
           try go_wp2
           have n0_ := Aside0.mk (yD_ HB.out)
           clear HB
           have HB := n0_
           clear n0_
           have p195 : 0 ≤ (x3_1 : Int) := of_decide_eq_true aS
           have q195 : x3_1 < (l0.length : Int) := of_decide_eq_true aS
           obtain ⟨ad195, e195, hx195_0, hx195_1⟩ := at_T49 HR0.out x3_1 p195 q195
           have hw195_1 := hx195_1
           have hw195_0 := hx195_0
           cases e195
           replace hx195_0 := (HB.out.cell (World.block_lt_of_cell? w _ hx195_0)).trans hx195_0
           replace hx195_1 := (HB.out.cell (World.block_lt_of_cell? w _ hx195_1)).trans hx195_1
           replace p195 := eq_true p195
           replace q195 := eq_true q195
           have p197 : 0 ≤ (x3_1 : Int) := of_decide_eq_true aS
           have q197 : x3_1 < (l0.length : Int) := of_decide_eq_true aS
           obtain ⟨ad197, e197, hx197_0, hx197_1⟩ := at_T49 HR0.out x3_1 p197 q197
           have hw197_1 := hx197_1
           have hw197_0 := hx197_0
           obtain rfl : ad195 = ad197 := (by injection e197)
           replace hx197_0 := (HB.out.cell (World.block_lt_of_cell? w _ hx197_0)).trans hx197_0
           replace hx197_1 := (HB.out.cell (World.block_lt_of_cell? w _ hx197_1)).trans hx197_1
           replace p197 := eq_true p197
           replace q197 := eq_true q197
           have p198 : 0 ≤ ((ji10) : Int) := of_decide_eq_true aS
           have q198 : (ji10) < (l0.length : Int) := of_decide_eq_true aS
           obtain ⟨ad198, e198, hx198_0, hx198_1⟩ := at_T49 HR0.out (ji10) p198 q198
           have hw198_1 := hx198_1
           have hw198_0 := hx198_0
           obtain rfl : ad195 = ad198 := (by injection e198)
           replace hx198_0 := (HB.out.cell (World.block_lt_of_cell? w _ hx198_0)).trans hx198_0
           replace hx198_1 := (HB.out.cell (World.block_lt_of_cell? w _ hx198_1)).trans hx198_1
           replace p198 := eq_true p198
           replace q198 := eq_true q198
           have p199 : 0 ≤ (x3_1 : Int) := of_decide_eq_true aS
           have q199 : x3_1 < (l0.length : Int) := of_decide_eq_true aS
           obtain ⟨ad199, e199, hx199_0, hx199_1⟩ := at_T49 HR0.out x3_1 p199 q199
           have hw199_1 := hx199_1
           have hw199_0 := hx199_0
           obtain rfl : ad195 = ad199 := (by injection e199)
           replace hx199_0 := (HB.out.cell (World.block_lt_of_cell? w _ hx199_0)).trans hx199_0
           replace hx199_1 := (HB.out.cell (World.block_lt_of_cell? w _ hx199_1)).trans hx199_1
           replace p199 := eq_true p199
           replace q199 := eq_true q199
           refine start_ (n := 34) (S := fun w' => w'.cell? (ad195.add ((x3_1).toNat * 2)) = some (.string ((rd_T49 l0 x3_1).f0)) ∧ w'.cell? ⟨(ad195.add ((x3_1).toNat * 2)).block, (ad195.add ((x3_1).toNat * 2)).off + 1, none⟩ = some (.string ((rd_T49 l0 x3_1).f1)) ∧ w'.cell? (ad195.add ((x3_1).toNat * 2)) = some (.string ((rd_T49 l0 x3_1).f0)) ∧ w'.cell? ⟨(ad195.add ((x3_1).toNat * 2)).block, (ad195.add ((x3_1).toNat * 2)).off + 1, none⟩ = some (.string ((rd_T49 l0 x3_1).f1)) ∧ w'.cell? (ad195.add (((ji10)).toNat * 2)) = some (.string ((rd_T49 l0 (ji10)).f0)) ∧ w'.cell? ⟨(ad195.add (((ji10)).toNat * 2)).block, (ad195.add (((ji10)).toNat * 2)).off + 1, none⟩ = some (.string ((rd_T49 l0 (ji10)).f1)) ∧ w'.cell? (ad195.add ((x3_1).toNat * 2)) = some (.string ((rd_T49 l0 x3_1).f0)) ∧ w'.cell? ⟨(ad195.add ((x3_1).toNat * 2)).block, (ad195.add ((x3_1).toNat * 2)).off + 1, none⟩ = some (.string ((rd_T49 l0 x3_1).f1))) (ds := []) #[F_,F_,F_,F_,F_,F_,F_,F_,F_,F_,F_,F_,F_,F_,F_,F_,F_,F_,F_,F_,F_,F_,F_,F_,F_,F_,F_,F_,F_,F_,F_,F_,F_,F_] (by kernel_rfl) rfl rfl ⟨((HB.out.cell (World.block_lt_of_cell? w _ hw195_0)).trans hw195_0), ((HB.out.cell (World.block_lt_of_cell? w _ hw195_1)).trans hw195_1), ((HB.out.cell (World.block_lt_of_cell? w _ hw197_0)).trans hw197_0), ((HB.out.cell (World.block_lt_of_cell? w _ hw197_1)).trans hw197_1), ((HB.out.cell (World.block_lt_of_cell? w _ hw198_0)).trans hw198_0), ((HB.out.cell (World.block_lt_of_cell? w _ hw198_1)).trans hw198_1), ((HB.out.cell (World.block_lt_of_cell? w _ hw199_0)).trans hw199_0), ((HB.out.cell (World.block_lt_of_cell? w _ hw199_1)).trans hw199_1)⟩ (fun hHeld => ?_); refine with_tabW armadaref05_May.tab4 armadaref05_May.bits4 (fun HT_ HW_ => ?_)
           generalize wr.drew = w14 at HB hx195_0 hx195_1 hx197_0 hx197_1 hx198_0 hx198_1 hx199_0 hx199_1 hHeld ⊢
           refine pU 0 (some 10) #[T_,F_,F_,F_,F_,F_,F_,F_,F_,F_,F_,F_,F_,F_,F_,F_,F_,F_,F_,F_,F_,F_,F_,F_,F_,F_,F_,F_,F_,F_,F_,F_,F_,F_] HT_ ?_
           refine pU 1 (some 11) #[T_,T_,F_,F_,F_,F_,F_,F_,F_,F_,F_,F_,F_,F_,F_,F_,F_,F_,F_,F_,F_,F_,F_,F_,F_,F_,F_,F_,F_,F_,F_,F_,F_,F_] HT_ ?_
           refine pU 2 (some 12) #[T_,T_,T_,F_,F_,F_,F_,F_,F_,F_,F_,F_,F_,F_,F_,F_,F_,F_,F_,F_,F_,F_,F_,F_,F_,F_,F_,F_,F_,F_,F_,F_,F_,F_] HT_ ?_
           refine pU 3 (some 13) #[T_,T_,T_,T_,F_,F_,F_,F_,F_,F_,F_,F_,F_,F_,F_,F_,F_,F_,F_,F_,F_,F_,F_,F_,F_,F_,F_,F_,F_,F_,F_,F_,F_,F_] HT_ ?_
           refine tK 4 (some 14) #[T_,T_,T_,T_,T_,F_,F_,F_,F_,F_,F_,F_,F_,F_,F_,F_,F_,F_,F_,F_,F_,F_,F_,F_,F_,F_,F_,F_,F_,F_,F_,F_,F_,F_] HT_ HW_ hHeld ?_
           refine oN 5 (some 15) #[T_,T_,T_,T_,T_,T_,F_,F_,F_,F_,F_,F_,F_,F_,F_,F_,F_,F_,F_,F_,F_,F_,F_,F_,F_,F_,F_,F_,F_,F_,F_,F_,F_,F_] HT_ (fun K hK => ?_)
           refine gO Tryd.func15 #[.string ((rd_T49 l0 x3_1).f0)] ?_
           with_reducible refine (armadaref05_Path.calls k1 ((rd_T49 l0 x3_1).f0) true _ A4.out).mono ?_
           rintro e w15 ⟨rfl, hb⟩
           refine ⟨_, rfl, ?_⟩
           have n0_ := wH hb
           clear HB
           have HB := n0_
           clear n0_
           (try clear hb)
           (try clear hb2)
           (try clear hk)
           (try clear hi)
           refine hK.out _ _ ⟨((HB.out.cell (World.block_lt_of_cell? w _ hw195_0)).trans hw195_0), ((HB.out.cell (World.block_lt_of_cell? w _ hw195_1)).trans hw195_1), ((HB.out.cell (World.block_lt_of_cell? w _ hw197_0)).trans hw197_0), ((HB.out.cell (World.block_lt_of_cell? w _ hw197_1)).trans hw197_1), ((HB.out.cell (World.block_lt_of_cell? w _ hw198_0)).trans hw198_0), ((HB.out.cell (World.block_lt_of_cell? w _ hw198_1)).trans hw198_1), ((HB.out.cell (World.block_lt_of_cell? w _ hw199_0)).trans hw199_0), ((HB.out.cell (World.block_lt_of_cell? w _ hw199_1)).trans hw199_1)⟩ (fun hHeld => ?_)
           clear hK K
           refine nS (some 15) ?_
           refine pU 6 (some 16) #[T_,T_,T_,T_,T_,T_,T_,F_,F_,F_,F_,F_,F_,F_,F_,F_,F_,F_,F_,F_,F_,F_,F_,F_,F_,F_,F_,F_,F_,F_,F_,F_,F_,F_] HT_ ?_
           refine pU 7 (some 17) #[T_,T_,T_,T_,T_,T_,T_,T_,F_,F_,F_,F_,F_,F_,F_,F_,F_,F_,F_,F_,F_,F_,F_,F_,F_,F_,F_,F_,F_,F_,F_,F_,F_,F_] HT_ ?_
           refine pU 8 (some 18) #[T_,T_,T_,T_,T_,T_,T_,T_,T_,F_,F_,F_,F_,F_,F_,F_,F_,F_,F_,F_,F_,F_,F_,F_,F_,F_,F_,F_,F_,F_,F_,F_,F_,F_] HT_ ?_
           refine pU 9 (some 19) #[T_,T_,T_,T_,T_,T_,T_,T_,T_,T_,F_,F_,F_,F_,F_,F_,F_,F_,F_,F_,F_,F_,F_,F_,F_,F_,F_,F_,F_,F_,F_,F_,F_,F_] HT_ ?_
           refine pU 10 (some 20) #[T_,T_,T_,T_,T_,T_,T_,T_,T_,T_,T_,F_,F_,F_,F_,F_,F_,F_,F_,F_,F_,F_,F_,F_,F_,F_,F_,F_,F_,F_,F_,F_,F_,F_] HT_ ?_
           refine pU 11 (some 21) #[T_,T_,T_,T_,T_,T_,T_,T_,T_,T_,T_,T_,F_,F_,F_,F_,F_,F_,F_,F_,F_,F_,F_,F_,F_,F_,F_,F_,F_,F_,F_,F_,F_,F_] HT_ ?_
           refine tK 12 (some 22) #[T_,T_,T_,T_,T_,T_,T_,T_,T_,T_,T_,T_,T_,F_,F_,F_,F_,F_,F_,F_,F_,F_,F_,F_,F_,F_,F_,F_,F_,F_,F_,F_,F_,F_] HT_ HW_ hHeld ?_
           refine pU 13 (some 23) #[T_,T_,T_,T_,T_,T_,T_,T_,T_,T_,T_,T_,T_,T_,F_,F_,F_,F_,F_,F_,F_,F_,F_,F_,F_,F_,F_,F_,F_,F_,F_,F_,F_,F_] HT_ ?_
           refine pU 14 (some 24) #[T_,T_,T_,T_,T_,T_,T_,T_,T_,T_,T_,T_,T_,T_,T_,F_,F_,F_,F_,F_,F_,F_,F_,F_,F_,F_,F_,F_,F_,F_,F_,F_,F_,F_] HT_ ?_
           refine pU 15 (some 25) #[T_,T_,T_,T_,T_,T_,T_,T_,T_,T_,T_,T_,T_,T_,T_,T_,F_,F_,F_,F_,F_,F_,F_,F_,F_,F_,F_,F_,F_,F_,F_,F_,F_,F_] HT_ ?_
           refine pU 16 (some 26) #[T_,T_,T_,T_,T_,T_,T_,T_,T_,T_,T_,T_,T_,T_,T_,T_,T_,F_,F_,F_,F_,F_,F_,F_,F_,F_,F_,F_,F_,F_,F_,F_,F_,F_] HT_ ?_
           refine pU 17 (some 27) #[T_,T_,T_,T_,T_,T_,T_,T_,T_,T_,T_,T_,T_,T_,T_,T_,T_,T_,F_,F_,F_,F_,F_,F_,F_,F_,F_,F_,F_,F_,F_,F_,F_,F_] HT_ ?_
           refine pU 18 (some 28) #[T_,T_,T_,T_,T_,T_,T_,T_,T_,T_,T_,T_,T_,T_,T_,T_,T_,T_,T_,F_,F_,F_,F_,F_,F_,F_,F_,F_,F_,F_,F_,F_,F_,F_] HT_ ?_
           refine pU 19 (some 29) #[T_,T_,T_,T_,T_,T_,T_,T_,T_,T_,T_,T_,T_,T_,T_,T_,T_,T_,T_,T_,F_,F_,F_,F_,F_,F_,F_,F_,F_,F_,F_,F_,F_,F_] HT_ ?_
           refine pU 20 (some 30) #[T_,T_,T_,T_,T_,T_,T_,T_,T_,T_,T_,T_,T_,T_,T_,T_,T_,T_,T_,T_,T_,F_,F_,F_,F_,F_,F_,F_,F_,F_,F_,F_,F_,F_] HT_ ?_
           refine pU 21 (some 31) #[T_,T_,T_,T_,T_,T_,T_,T_,T_,T_,T_,T_,T_,T_,T_,T_,T_,T_,T_,T_,T_,T_,F_,F_,F_,F_,F_,F_,F_,F_,F_,F_,F_,F_] HT_ ?_
           refine pU 22 (some 32) #[T_,T_,T_,T_,T_,T_,T_,T_,T_,T_,T_,T_,T_,T_,T_,T_,T_,T_,T_,T_,T_,T_,T_,F_,F_,F_,F_,F_,F_,F_,F_,F_,F_,F_] HT_ ?_
           refine pU 23 (some 33) #[T_,T_,T_,T_,T_,T_,T_,T_,T_,T_,T_,T_,T_,T_,T_,T_,T_,T_,T_,T_,T_,T_,T_,T_,F_,F_,F_,F_,F_,F_,F_,F_,F_,F_] HT_ ?_
           refine pU 24 (some 34) #[T_,T_,T_,T_,T_,T_,T_,T_,T_,T_,T_,T_,T_,T_,T_,T_,T_,T_,T_,T_,T_,T_,T_,T_,T_,F_,F_,F_,F_,F_,F_,F_,F_,F_] HT_ ?_
           refine pU 26 (some 36) #[T_,T_,T_,T_,T_,T_,T_,T_,T_,T_,T_,T_,T_,T_,T_,T_,T_,T_,T_,T_,T_,T_,T_,T_,T_,F_,T_,F_,F_,F_,F_,F_,F_,F_] HT_ ?_
           refine pU 27 (some 37) #[T_,T_,T_,T_,T_,T_,T_,T_,T_,T_,T_,T_,T_,T_,T_,T_,T_,T_,T_,T_,T_,T_,T_,T_,T_,F_,T_,T_,F_,F_,F_,F_,F_,F_] HT_ ?_
           refine pU 28 (some 38) #[T_,T_,T_,T_,T_,T_,T_,T_,T_,T_,T_,T_,T_,T_,T_,T_,T_,T_,T_,T_,T_,T_,T_,T_,T_,F_,T_,T_,T_,F_,F_,F_,F_,F_] HT_ ?_
           refine pU 29 (some 39) #[T_,T_,T_,T_,T_,T_,T_,T_,T_,T_,T_,T_,T_,T_,T_,T_,T_,T_,T_,T_,T_,T_,T_,T_,T_,F_,T_,T_,T_,T_,F_,F_,F_,F_] HT_ ?_
           refine tK 25 (some 35) #[T_,T_,T_,T_,T_,T_,T_,T_,T_,T_,T_,T_,T_,T_,T_,T_,T_,T_,T_,T_,T_,T_,T_,T_,T_,T_,T_,T_,T_,T_,F_,F_,F_,F_] HT_ HW_ hHeld ?_
           refine tK 30 (some 40) #[T_,T_,T_,T_,T_,T_,T_,T_,T_,T_,T_,T_,T_,T_,T_,T_,T_,T_,T_,T_,T_,T_,T_,T_,T_,T_,T_,T_,T_,T_,T_,F_,F_,F_] HT_ HW_ hHeld ?_
           refine pU 31 (some 41) #[T_,T_,T_,T_,T_,T_,T_,T_,T_,T_,T_,T_,T_,T_,T_,T_,T_,T_,T_,T_,T_,T_,T_,T_,T_,T_,T_,T_,T_,T_,T_,T_,F_,F_] HT_ ?_
           refine pU 32 (some 42) #[T_,T_,T_,T_,T_,T_,T_,T_,T_,T_,T_,T_,T_,T_,T_,T_,T_,T_,T_,T_,T_,T_,T_,T_,T_,T_,T_,T_,T_,T_,T_,T_,T_,F_] HT_ ?_
           refine pU 33 (some 43) #[T_,T_,T_,T_,T_,T_,T_,T_,T_,T_,T_,T_,T_,T_,T_,T_,T_,T_,T_,T_,T_,T_,T_,T_,T_,T_,T_,T_,T_,T_,T_,T_,T_,T_] HT_ ?_
           refine done_ (done_of HT_.out (by kernel_rfl)) ?_
           try go_wp2
           go_roundg k1
           case measure => have := HK1.out; omega
           case rel => exact ⟨(wrap64 (x3_1 + 1)), eY, H', ⟨by have := HK1.out; omega⟩, ⟨qH⟩⟩
          ·rw [if_neg c13] at H
           have c13b0 : (Op.bytesLess (((rd_T49 l0 (ji10)).f0).toList) (((rd_T49 l0 x3_1).f0).toList)) = false := by simpa using c13
           clear c13
           obtain rfl := Option.some.inj H
           try go_wp2
           have n0_ := Aside0.mk (yD_ HB.out)
           clear HB
           have HB := n0_
           clear n0_
           have p195 : 0 ≤ (x3_1 : Int) := of_decide_eq_true aS
           have q195 : x3_1 < (l0.length : Int) := of_decide_eq_true aS
           obtain ⟨ad195, e195, hx195_0, hx195_1⟩ := at_T49 HR0.out x3_1 p195 q195
           have hw195_1 := hx195_1
           have hw195_0 := hx195_0
           cases e195
           replace hx195_0 := (HB.out.cell (World.block_lt_of_cell? w _ hx195_0)).trans hx195_0
           replace hx195_1 := (HB.out.cell (World.block_lt_of_cell? w _ hx195_1)).trans hx195_1
           replace p195 := eq_true p195
           replace q195 := eq_true q195
           have p197 : 0 ≤ (x3_1 : Int) := of_decide_eq_true aS
           have q197 : x3_1 < (l0.length : Int) := of_decide_eq_true aS
           obtain ⟨ad197, e197, hx197_0, hx197_1⟩ := at_T49 HR0.out x3_1 p197 q197
           have hw197_1 := hx197_1
           have hw197_0 := hx197_0
           obtain rfl : ad195 = ad197 := (by injection e197)
           replace hx197_0 := (HB.out.cell (World.block_lt_of_cell? w _ hx197_0)).trans hx197_0
           replace hx197_1 := (HB.out.cell (World.block_lt_of_cell? w _ hx197_1)).trans hx197_1
           replace p197 := eq_true p197
           replace q197 := eq_true q197
           have p198 : 0 ≤ ((ji10) : Int) := of_decide_eq_true aS
           have q198 : (ji10) < (l0.length : Int) := of_decide_eq_true aS
           obtain ⟨ad198, e198, hx198_0, hx198_1⟩ := at_T49 HR0.out (ji10) p198 q198
           have hw198_1 := hx198_1
           have hw198_0 := hx198_0
           obtain rfl : ad195 = ad198 := (by injection e198)
           replace hx198_0 := (HB.out.cell (World.block_lt_of_cell? w _ hx198_0)).trans hx198_0
           replace hx198_1 := (HB.out.cell (World.block_lt_of_cell? w _ hx198_1)).trans hx198_1
           replace p198 := eq_true p198
           replace q198 := eq_true q198
           have p199 : 0 ≤ (x3_1 : Int) := of_decide_eq_true aS
           have q199 : x3_1 < (l0.length : Int) := of_decide_eq_true aS
           obtain ⟨ad199, e199, hx199_0, hx199_1⟩ := at_T49 HR0.out x3_1 p199 q199
           have hw199_1 := hx199_1
           have hw199_0 := hx199_0
           obtain rfl : ad195 = ad199 := (by injection e199)
           replace hx199_0 := (HB.out.cell (World.block_lt_of_cell? w _ hx199_0)).trans hx199_0
           replace hx199_1 := (HB.out.cell (World.block_lt_of_cell? w _ hx199_1)).trans hx199_1
           replace p199 := eq_true p199
           replace q199 := eq_true q199
           refine start_ (n := 34) (S := fun w' => w'.cell? (ad195.add ((x3_1).toNat * 2)) = some (.string ((rd_T49 l0 x3_1).f0)) ∧ w'.cell? ⟨(ad195.add ((x3_1).toNat * 2)).block, (ad195.add ((x3_1).toNat * 2)).off + 1, none⟩ = some (.string ((rd_T49 l0 x3_1).f1)) ∧ w'.cell? (ad195.add ((x3_1).toNat * 2)) = some (.string ((rd_T49 l0 x3_1).f0)) ∧ w'.cell? ⟨(ad195.add ((x3_1).toNat * 2)).block, (ad195.add ((x3_1).toNat * 2)).off + 1, none⟩ = some (.string ((rd_T49 l0 x3_1).f1)) ∧ w'.cell? (ad195.add (((ji10)).toNat * 2)) = some (.string ((rd_T49 l0 (ji10)).f0)) ∧ w'.cell? ⟨(ad195.add (((ji10)).toNat * 2)).block, (ad195.add (((ji10)).toNat * 2)).off + 1, none⟩ = some (.string ((rd_T49 l0 (ji10)).f1)) ∧ w'.cell? (ad195.add ((x3_1).toNat * 2)) = some (.string ((rd_T49 l0 x3_1).f0)) ∧ w'.cell? ⟨(ad195.add ((x3_1).toNat * 2)).block, (ad195.add ((x3_1).toNat * 2)).off + 1, none⟩ = some (.string ((rd_T49 l0 x3_1).f1))) (ds := []) #[F_,F_,F_,F_,F_,F_,F_,F_,F_,F_,F_,F_,F_,F_,F_,F_,F_,F_,F_,F_,F_,F_,F_,F_,F_,F_,F_,F_,F_,F_,F_,F_,F_,F_] (by kernel_rfl) rfl rfl ⟨((HB.out.cell (World.block_lt_of_cell? w _ hw195_0)).trans hw195_0), ((HB.out.cell (World.block_lt_of_cell? w _ hw195_1)).trans hw195_1), ((HB.out.cell (World.block_lt_of_cell? w _ hw197_0)).trans hw197_0), ((HB.out.cell (World.block_lt_of_cell? w _ hw197_1)).trans hw197_1), ((HB.out.cell (World.block_lt_of_cell? w _ hw198_0)).trans hw198_0), ((HB.out.cell (World.block_lt_of_cell? w _ hw198_1)).trans hw198_1), ((HB.out.cell (World.block_lt_of_cell? w _ hw199_0)).trans hw199_0), ((HB.out.cell (World.block_lt_of_cell? w _ hw199_1)).trans hw199_1)⟩ (fun hHeld => ?_); refine with_tabW armadaref05_May.tab4 armadaref05_May.bits4 (fun HT_ HW_ => ?_)
           generalize wr.drew = w16 at HB hx195_0 hx195_1 hx197_0 hx197_1 hx198_0 hx198_1 hx199_0 hx199_1 hHeld ⊢
           refine pU 0 (some 10) #[T_,F_,F_,F_,F_,F_,F_,F_,F_,F_,F_,F_,F_,F_,F_,F_,F_,F_,F_,F_,F_,F_,F_,F_,F_,F_,F_,F_,F_,F_,F_,F_,F_,F_] HT_ ?_
           refine pU 1 (some 11) #[T_,T_,F_,F_,F_,F_,F_,F_,F_,F_,F_,F_,F_,F_,F_,F_,F_,F_,F_,F_,F_,F_,F_,F_,F_,F_,F_,F_,F_,F_,F_,F_,F_,F_] HT_ ?_
           refine pU 2 (some 12) #[T_,T_,T_,F_,F_,F_,F_,F_,F_,F_,F_,F_,F_,F_,F_,F_,F_,F_,F_,F_,F_,F_,F_,F_,F_,F_,F_,F_,F_,F_,F_,F_,F_,F_] HT_ ?_
           refine pU 3 (some 13) #[T_,T_,T_,T_,F_,F_,F_,F_,F_,F_,F_,F_,F_,F_,F_,F_,F_,F_,F_,F_,F_,F_,F_,F_,F_,F_,F_,F_,F_,F_,F_,F_,F_,F_] HT_ ?_
           refine tK 4 (some 14) #[T_,T_,T_,T_,T_,F_,F_,F_,F_,F_,F_,F_,F_,F_,F_,F_,F_,F_,F_,F_,F_,F_,F_,F_,F_,F_,F_,F_,F_,F_,F_,F_,F_,F_] HT_ HW_ hHeld ?_
           refine oN 5 (some 15) #[T_,T_,T_,T_,T_,T_,F_,F_,F_,F_,F_,F_,F_,F_,F_,F_,F_,F_,F_,F_,F_,F_,F_,F_,F_,F_,F_,F_,F_,F_,F_,F_,F_,F_] HT_ (fun K hK => ?_)
           refine gO Tryd.func15 #[.string ((rd_T49 l0 x3_1).f0)] ?_
           with_reducible refine (armadaref05_Path.calls k1 ((rd_T49 l0 x3_1).f0) true _ A4.out).mono ?_
           rintro e w17 ⟨rfl, hb⟩
           refine ⟨_, rfl, ?_⟩
           have n0_ := wH hb
           clear HB
           have HB := n0_
           clear n0_
           (try clear hb)
           (try clear hb2)
           (try clear hk)
           (try clear hi)
           refine hK.out _ _ ⟨((HB.out.cell (World.block_lt_of_cell? w _ hw195_0)).trans hw195_0), ((HB.out.cell (World.block_lt_of_cell? w _ hw195_1)).trans hw195_1), ((HB.out.cell (World.block_lt_of_cell? w _ hw197_0)).trans hw197_0), ((HB.out.cell (World.block_lt_of_cell? w _ hw197_1)).trans hw197_1), ((HB.out.cell (World.block_lt_of_cell? w _ hw198_0)).trans hw198_0), ((HB.out.cell (World.block_lt_of_cell? w _ hw198_1)).trans hw198_1), ((HB.out.cell (World.block_lt_of_cell? w _ hw199_0)).trans hw199_0), ((HB.out.cell (World.block_lt_of_cell? w _ hw199_1)).trans hw199_1)⟩ (fun hHeld => ?_)
           clear hK K
           refine nS (some 15) ?_
           refine pU 6 (some 16) #[T_,T_,T_,T_,T_,T_,T_,F_,F_,F_,F_,F_,F_,F_,F_,F_,F_,F_,F_,F_,F_,F_,F_,F_,F_,F_,F_,F_,F_,F_,F_,F_,F_,F_] HT_ ?_
           refine pU 7 (some 17) #[T_,T_,T_,T_,T_,T_,T_,T_,F_,F_,F_,F_,F_,F_,F_,F_,F_,F_,F_,F_,F_,F_,F_,F_,F_,F_,F_,F_,F_,F_,F_,F_,F_,F_] HT_ ?_
           refine pU 8 (some 18) #[T_,T_,T_,T_,T_,T_,T_,T_,T_,F_,F_,F_,F_,F_,F_,F_,F_,F_,F_,F_,F_,F_,F_,F_,F_,F_,F_,F_,F_,F_,F_,F_,F_,F_] HT_ ?_
           refine pU 9 (some 19) #[T_,T_,T_,T_,T_,T_,T_,T_,T_,T_,F_,F_,F_,F_,F_,F_,F_,F_,F_,F_,F_,F_,F_,F_,F_,F_,F_,F_,F_,F_,F_,F_,F_,F_] HT_ ?_
           refine pU 10 (some 20) #[T_,T_,T_,T_,T_,T_,T_,T_,T_,T_,T_,F_,F_,F_,F_,F_,F_,F_,F_,F_,F_,F_,F_,F_,F_,F_,F_,F_,F_,F_,F_,F_,F_,F_] HT_ ?_
           refine pU 11 (some 21) #[T_,T_,T_,T_,T_,T_,T_,T_,T_,T_,T_,T_,F_,F_,F_,F_,F_,F_,F_,F_,F_,F_,F_,F_,F_,F_,F_,F_,F_,F_,F_,F_,F_,F_] HT_ ?_
           refine tK 12 (some 22) #[T_,T_,T_,T_,T_,T_,T_,T_,T_,T_,T_,T_,T_,F_,F_,F_,F_,F_,F_,F_,F_,F_,F_,F_,F_,F_,F_,F_,F_,F_,F_,F_,F_,F_] HT_ HW_ hHeld ?_
           refine pU 13 (some 23) #[T_,T_,T_,T_,T_,T_,T_,T_,T_,T_,T_,T_,T_,T_,F_,F_,F_,F_,F_,F_,F_,F_,F_,F_,F_,F_,F_,F_,F_,F_,F_,F_,F_,F_] HT_ ?_
           refine pU 14 (some 24) #[T_,T_,T_,T_,T_,T_,T_,T_,T_,T_,T_,T_,T_,T_,T_,F_,F_,F_,F_,F_,F_,F_,F_,F_,F_,F_,F_,F_,F_,F_,F_,F_,F_,F_] HT_ ?_
           refine pU 15 (some 25) #[T_,T_,T_,T_,T_,T_,T_,T_,T_,T_,T_,T_,T_,T_,T_,T_,F_,F_,F_,F_,F_,F_,F_,F_,F_,F_,F_,F_,F_,F_,F_,F_,F_,F_] HT_ ?_
           refine pU 16 (some 26) #[T_,T_,T_,T_,T_,T_,T_,T_,T_,T_,T_,T_,T_,T_,T_,T_,T_,F_,F_,F_,F_,F_,F_,F_,F_,F_,F_,F_,F_,F_,F_,F_,F_,F_] HT_ ?_
           refine pU 17 (some 27) #[T_,T_,T_,T_,T_,T_,T_,T_,T_,T_,T_,T_,T_,T_,T_,T_,T_,T_,F_,F_,F_,F_,F_,F_,F_,F_,F_,F_,F_,F_,F_,F_,F_,F_] HT_ ?_
           refine pU 18 (some 28) #[T_,T_,T_,T_,T_,T_,T_,T_,T_,T_,T_,T_,T_,T_,T_,T_,T_,T_,T_,F_,F_,F_,F_,F_,F_,F_,F_,F_,F_,F_,F_,F_,F_,F_] HT_ ?_
           refine pU 19 (some 29) #[T_,T_,T_,T_,T_,T_,T_,T_,T_,T_,T_,T_,T_,T_,T_,T_,T_,T_,T_,T_,F_,F_,F_,F_,F_,F_,F_,F_,F_,F_,F_,F_,F_,F_] HT_ ?_
           refine pU 20 (some 30) #[T_,T_,T_,T_,T_,T_,T_,T_,T_,T_,T_,T_,T_,T_,T_,T_,T_,T_,T_,T_,T_,F_,F_,F_,F_,F_,F_,F_,F_,F_,F_,F_,F_,F_] HT_ ?_
           refine pU 21 (some 31) #[T_,T_,T_,T_,T_,T_,T_,T_,T_,T_,T_,T_,T_,T_,T_,T_,T_,T_,T_,T_,T_,T_,F_,F_,F_,F_,F_,F_,F_,F_,F_,F_,F_,F_] HT_ ?_
           refine pU 22 (some 32) #[T_,T_,T_,T_,T_,T_,T_,T_,T_,T_,T_,T_,T_,T_,T_,T_,T_,T_,T_,T_,T_,T_,T_,F_,F_,F_,F_,F_,F_,F_,F_,F_,F_,F_] HT_ ?_
           refine pU 23 (some 33) #[T_,T_,T_,T_,T_,T_,T_,T_,T_,T_,T_,T_,T_,T_,T_,T_,T_,T_,T_,T_,T_,T_,T_,T_,F_,F_,F_,F_,F_,F_,F_,F_,F_,F_] HT_ ?_
           refine pU 24 (some 34) #[T_,T_,T_,T_,T_,T_,T_,T_,T_,T_,T_,T_,T_,T_,T_,T_,T_,T_,T_,T_,T_,T_,T_,T_,T_,F_,F_,F_,F_,F_,F_,F_,F_,F_] HT_ ?_
           refine pU 26 (some 36) #[T_,T_,T_,T_,T_,T_,T_,T_,T_,T_,T_,T_,T_,T_,T_,T_,T_,T_,T_,T_,T_,T_,T_,T_,T_,F_,T_,F_,F_,F_,F_,F_,F_,F_] HT_ ?_
           refine pU 27 (some 37) #[T_,T_,T_,T_,T_,T_,T_,T_,T_,T_,T_,T_,T_,T_,T_,T_,T_,T_,T_,T_,T_,T_,T_,T_,T_,F_,T_,T_,F_,F_,F_,F_,F_,F_] HT_ ?_
           refine pU 28 (some 38) #[T_,T_,T_,T_,T_,T_,T_,T_,T_,T_,T_,T_,T_,T_,T_,T_,T_,T_,T_,T_,T_,T_,T_,T_,T_,F_,T_,T_,T_,F_,F_,F_,F_,F_] HT_ ?_
           refine pU 29 (some 39) #[T_,T_,T_,T_,T_,T_,T_,T_,T_,T_,T_,T_,T_,T_,T_,T_,T_,T_,T_,T_,T_,T_,T_,T_,T_,F_,T_,T_,T_,T_,F_,F_,F_,F_] HT_ ?_
           refine tK 25 (some 35) #[T_,T_,T_,T_,T_,T_,T_,T_,T_,T_,T_,T_,T_,T_,T_,T_,T_,T_,T_,T_,T_,T_,T_,T_,T_,T_,T_,T_,T_,T_,F_,F_,F_,F_] HT_ HW_ hHeld ?_
           refine tK 30 (some 40) #[T_,T_,T_,T_,T_,T_,T_,T_,T_,T_,T_,T_,T_,T_,T_,T_,T_,T_,T_,T_,T_,T_,T_,T_,T_,T_,T_,T_,T_,T_,T_,F_,F_,F_] HT_ HW_ hHeld ?_
           refine pU 31 (some 41) #[T_,T_,T_,T_,T_,T_,T_,T_,T_,T_,T_,T_,T_,T_,T_,T_,T_,T_,T_,T_,T_,T_,T_,T_,T_,T_,T_,T_,T_,T_,T_,T_,F_,F_] HT_ ?_
           refine pU 32 (some 42) #[T_,T_,T_,T_,T_,T_,T_,T_,T_,T_,T_,T_,T_,T_,T_,T_,T_,T_,T_,T_,T_,T_,T_,T_,T_,T_,T_,T_,T_,T_,T_,T_,T_,F_] HT_ ?_
           refine pU 33 (some 43) #[T_,T_,T_,T_,T_,T_,T_,T_,T_,T_,T_,T_,T_,T_,T_,T_,T_,T_,T_,T_,T_,T_,T_,T_,T_,T_,T_,T_,T_,T_,T_,T_,T_,T_] HT_ ?_
           refine done_ (done_of HT_.out (by kernel_rfl)) ?_
           try go_wp2
           go_ret
           exact ⟨by first | rfl | (simp [errW_none, errW_some] <;> rfl) | (simp only [← hji10]; first | rfl | (simp [errW_none, errW_some] <;> rfl)) | (simp [*, errW_none, errW_some] <;> rfl), qH⟩
         ·rw [if_neg c12] at H
          exact absurd H (by simp)
        ·rw [if_neg c11] at H
         exact absurd H (by simp)
       ·rw [if_neg c9] at H
        have c9b0 : decide (0 < x3_1) = false := decide_eq_false c9
        clear c9
        have H' := Aside0.mk H
        clear H
        try go_wp2
        have n0_ := Aside0.mk (yD_ HB.out)
        clear HB
        have HB := n0_
        clear n0_
        have p195 : 0 ≤ (x3_1 : Int) := of_decide_eq_true aS
        have q195 : x3_1 < (l0.length : Int) := of_decide_eq_true aS
        obtain ⟨ad195, e195, hx195_0, hx195_1⟩ := at_T49 HR0.out x3_1 p195 q195
        have hw195_1 := hx195_1
        have hw195_0 := hx195_0
        cases e195
        replace hx195_0 := (HB.out.cell (World.block_lt_of_cell? w _ hx195_0)).trans hx195_0
        replace hx195_1 := (HB.out.cell (World.block_lt_of_cell? w _ hx195_1)).trans hx195_1
        replace p195 := eq_true p195
        replace q195 := eq_true q195
        have p197 : 0 ≤ (x3_1 : Int) := of_decide_eq_true aS
        have q197 : x3_1 < (l0.length : Int) := of_decide_eq_true aS
        obtain ⟨ad197, e197, hx197_0, hx197_1⟩ := at_T49 HR0.out x3_1 p197 q197
        have hw197_1 := hx197_1
        have hw197_0 := hx197_0
        obtain rfl : ad195 = ad197 := (by injection e197)
        replace hx197_0 := (HB.out.cell (World.block_lt_of_cell? w _ hx197_0)).trans hx197_0
        replace hx197_1 := (HB.out.cell (World.block_lt_of_cell? w _ hx197_1)).trans hx197_1
        replace p197 := eq_true p197
        replace q197 := eq_true q197
        refine start_ (n := 34) (S := fun w' => w'.cell? (ad195.add ((x3_1).toNat * 2)) = some (.string ((rd_T49 l0 x3_1).f0)) ∧ w'.cell? ⟨(ad195.add ((x3_1).toNat * 2)).block, (ad195.add ((x3_1).toNat * 2)).off + 1, none⟩ = some (.string ((rd_T49 l0 x3_1).f1)) ∧ w'.cell? (ad195.add ((x3_1).toNat * 2)) = some (.string ((rd_T49 l0 x3_1).f0)) ∧ w'.cell? ⟨(ad195.add ((x3_1).toNat * 2)).block, (ad195.add ((x3_1).toNat * 2)).off + 1, none⟩ = some (.string ((rd_T49 l0 x3_1).f1))) (ds := []) #[F_,F_,F_,F_,F_,F_,F_,F_,F_,F_,F_,F_,F_,F_,F_,F_,F_,F_,F_,F_,F_,F_,F_,F_,F_,F_,F_,F_,F_,F_,F_,F_,F_,F_] (by kernel_rfl) rfl rfl ⟨((HB.out.cell (World.block_lt_of_cell? w _ hw195_0)).trans hw195_0), ((HB.out.cell (World.block_lt_of_cell? w _ hw195_1)).trans hw195_1), ((HB.out.cell (World.block_lt_of_cell? w _ hw197_0)).trans hw197_0), ((HB.out.cell (World.block_lt_of_cell? w _ hw197_1)).trans hw197_1)⟩ (fun hHeld => ?_); refine with_tabW armadaref05_May.tab4 armadaref05_May.bits4 (fun HT_ HW_ => ?_)
        generalize wr.drew = w18 at HB hx195_0 hx195_1 hx197_0 hx197_1 hHeld ⊢
        refine pU 0 (some 10) #[T_,F_,F_,F_,F_,F_,F_,F_,F_,F_,F_,F_,F_,F_,F_,F_,F_,F_,F_,F_,F_,F_,F_,F_,F_,F_,F_,F_,F_,F_,F_,F_,F_,F_] HT_ ?_
        refine pU 1 (some 11) #[T_,T_,F_,F_,F_,F_,F_,F_,F_,F_,F_,F_,F_,F_,F_,F_,F_,F_,F_,F_,F_,F_,F_,F_,F_,F_,F_,F_,F_,F_,F_,F_,F_,F_] HT_ ?_
        refine pU 2 (some 12) #[T_,T_,T_,F_,F_,F_,F_,F_,F_,F_,F_,F_,F_,F_,F_,F_,F_,F_,F_,F_,F_,F_,F_,F_,F_,F_,F_,F_,F_,F_,F_,F_,F_,F_] HT_ ?_
        refine pU 3 (some 13) #[T_,T_,T_,T_,F_,F_,F_,F_,F_,F_,F_,F_,F_,F_,F_,F_,F_,F_,F_,F_,F_,F_,F_,F_,F_,F_,F_,F_,F_,F_,F_,F_,F_,F_] HT_ ?_
        refine tK 4 (some 14) #[T_,T_,T_,T_,T_,F_,F_,F_,F_,F_,F_,F_,F_,F_,F_,F_,F_,F_,F_,F_,F_,F_,F_,F_,F_,F_,F_,F_,F_,F_,F_,F_,F_,F_] HT_ HW_ hHeld ?_
        refine oN 5 (some 15) #[T_,T_,T_,T_,T_,T_,F_,F_,F_,F_,F_,F_,F_,F_,F_,F_,F_,F_,F_,F_,F_,F_,F_,F_,F_,F_,F_,F_,F_,F_,F_,F_,F_,F_] HT_ (fun K hK => ?_)
        refine gO Tryd.func15 #[.string ((rd_T49 l0 x3_1).f0)] ?_
        with_reducible refine (armadaref05_Path.calls k1 ((rd_T49 l0 x3_1).f0) true _ A4.out).mono ?_
        rintro e w19 ⟨rfl, hb⟩
        refine ⟨_, rfl, ?_⟩
        have n0_ := wH hb
        clear HB
        have HB := n0_
        clear n0_
        (try clear hb)
        (try clear hb2)
        (try clear hk)
        (try clear hi)
        refine hK.out _ _ ⟨((HB.out.cell (World.block_lt_of_cell? w _ hw195_0)).trans hw195_0), ((HB.out.cell (World.block_lt_of_cell? w _ hw195_1)).trans hw195_1), ((HB.out.cell (World.block_lt_of_cell? w _ hw197_0)).trans hw197_0), ((HB.out.cell (World.block_lt_of_cell? w _ hw197_1)).trans hw197_1)⟩ (fun hHeld => ?_)
        clear hK K
        refine nS (some 15) ?_
        refine pU 6 (some 16) #[T_,T_,T_,T_,T_,T_,T_,F_,F_,F_,F_,F_,F_,F_,F_,F_,F_,F_,F_,F_,F_,F_,F_,F_,F_,F_,F_,F_,F_,F_,F_,F_,F_,F_] HT_ ?_
        refine pU 7 (some 17) #[T_,T_,T_,T_,T_,T_,T_,T_,F_,F_,F_,F_,F_,F_,F_,F_,F_,F_,F_,F_,F_,F_,F_,F_,F_,F_,F_,F_,F_,F_,F_,F_,F_,F_] HT_ ?_
        refine pU 8 (some 18) #[T_,T_,T_,T_,T_,T_,T_,T_,T_,F_,F_,F_,F_,F_,F_,F_,F_,F_,F_,F_,F_,F_,F_,F_,F_,F_,F_,F_,F_,F_,F_,F_,F_,F_] HT_ ?_
        refine pU 9 (some 19) #[T_,T_,T_,T_,T_,T_,T_,T_,T_,T_,F_,F_,F_,F_,F_,F_,F_,F_,F_,F_,F_,F_,F_,F_,F_,F_,F_,F_,F_,F_,F_,F_,F_,F_] HT_ ?_
        refine pU 10 (some 20) #[T_,T_,T_,T_,T_,T_,T_,T_,T_,T_,T_,F_,F_,F_,F_,F_,F_,F_,F_,F_,F_,F_,F_,F_,F_,F_,F_,F_,F_,F_,F_,F_,F_,F_] HT_ ?_
        refine pU 11 (some 21) #[T_,T_,T_,T_,T_,T_,T_,T_,T_,T_,T_,T_,F_,F_,F_,F_,F_,F_,F_,F_,F_,F_,F_,F_,F_,F_,F_,F_,F_,F_,F_,F_,F_,F_] HT_ ?_
        refine tK 12 (some 22) #[T_,T_,T_,T_,T_,T_,T_,T_,T_,T_,T_,T_,T_,F_,F_,F_,F_,F_,F_,F_,F_,F_,F_,F_,F_,F_,F_,F_,F_,F_,F_,F_,F_,F_] HT_ HW_ hHeld ?_
        refine pU 13 (some 23) #[T_,T_,T_,T_,T_,T_,T_,T_,T_,T_,T_,T_,T_,T_,F_,F_,F_,F_,F_,F_,F_,F_,F_,F_,F_,F_,F_,F_,F_,F_,F_,F_,F_,F_] HT_ ?_
        refine pU 14 (some 24) #[T_,T_,T_,T_,T_,T_,T_,T_,T_,T_,T_,T_,T_,T_,T_,F_,F_,F_,F_,F_,F_,F_,F_,F_,F_,F_,F_,F_,F_,F_,F_,F_,F_,F_] HT_ ?_
        refine pU 15 (some 25) #[T_,T_,T_,T_,T_,T_,T_,T_,T_,T_,T_,T_,T_,T_,T_,T_,F_,F_,F_,F_,F_,F_,F_,F_,F_,F_,F_,F_,F_,F_,F_,F_,F_,F_] HT_ ?_
        refine pU 16 (some 26) #[T_,T_,T_,T_,T_,T_,T_,T_,T_,T_,T_,T_,T_,T_,T_,T_,T_,F_,F_,F_,F_,F_,F_,F_,F_,F_,F_,F_,F_,F_,F_,F_,F_,F_] HT_ ?_
        refine pU 17 (some 27) #[T_,T_,T_,T_,T_,T_,T_,T_,T_,T_,T_,T_,T_,T_,T_,T_,T_,T_,F_,F_,F_,F_,F_,F_,F_,F_,F_,F_,F_,F_,F_,F_,F_,F_] HT_ ?_
        refine pU 18 (some 28) #[T_,T_,T_,T_,T_,T_,T_,T_,T_,T_,T_,T_,T_,T_,T_,T_,T_,T_,T_,F_,F_,F_,F_,F_,F_,F_,F_,F_,F_,F_,F_,F_,F_,F_] HT_ ?_
        refine pU 19 (some 29) #[T_,T_,T_,T_,T_,T_,T_,T_,T_,T_,T_,T_,T_,T_,T_,T_,T_,T_,T_,T_,F_,F_,F_,F_,F_,F_,F_,F_,F_,F_,F_,F_,F_,F_] HT_ ?_
        refine pN 20 (some 30) #[T_,T_,T_,T_,T_,T_,T_,T_,T_,T_,T_,T_,T_,T_,T_,T_,T_,T_,T_,T_,T_,F_,F_,F_,F_,F_,F_,F_,F_,F_,F_,F_,F_,F_] HT_ ?_
        refine pN 21 (some 31) #[T_,T_,T_,T_,T_,T_,T_,T_,T_,T_,T_,T_,T_,T_,T_,T_,T_,T_,T_,T_,T_,T_,F_,F_,F_,F_,F_,F_,F_,F_,F_,F_,F_,F_] HT_ ?_
        refine pN 22 (some 32) #[T_,T_,T_,T_,T_,T_,T_,T_,T_,T_,T_,T_,T_,T_,T_,T_,T_,T_,T_,T_,T_,T_,T_,F_,F_,F_,F_,F_,F_,F_,F_,F_,F_,F_] HT_ ?_
        refine pN 23 (some 33) #[T_,T_,T_,T_,T_,T_,T_,T_,T_,T_,T_,T_,T_,T_,T_,T_,T_,T_,T_,T_,T_,T_,T_,T_,F_,F_,F_,F_,F_,F_,F_,F_,F_,F_] HT_ ?_
        refine pN 24 (some 34) #[T_,T_,T_,T_,T_,T_,T_,T_,T_,T_,T_,T_,T_,T_,T_,T_,T_,T_,T_,T_,T_,T_,T_,T_,T_,F_,F_,F_,F_,F_,F_,F_,F_,F_] HT_ ?_
        refine pN 25 (some 35) #[T_,T_,T_,T_,T_,T_,T_,T_,T_,T_,T_,T_,T_,T_,T_,T_,T_,T_,T_,T_,T_,T_,T_,T_,T_,T_,F_,F_,F_,F_,F_,F_,F_,F_] HT_ ?_
        refine pN 26 (some 36) #[T_,T_,T_,T_,T_,T_,T_,T_,T_,T_,T_,T_,T_,T_,T_,T_,T_,T_,T_,T_,T_,T_,T_,T_,T_,T_,T_,F_,F_,F_,F_,F_,F_,F_] HT_ ?_
        refine pN 27 (some 37) #[T_,T_,T_,T_,T_,T_,T_,T_,T_,T_,T_,T_,T_,T_,T_,T_,T_,T_,T_,T_,T_,T_,T_,T_,T_,T_,T_,T_,F_,F_,F_,F_,F_,F_] HT_ ?_
        refine pN 28 (some 38) #[T_,T_,T_,T_,T_,T_,T_,T_,T_,T_,T_,T_,T_,T_,T_,T_,T_,T_,T_,T_,T_,T_,T_,T_,T_,T_,T_,T_,T_,F_,F_,F_,F_,F_] HT_ ?_
        refine pN 29 (some 39) #[T_,T_,T_,T_,T_,T_,T_,T_,T_,T_,T_,T_,T_,T_,T_,T_,T_,T_,T_,T_,T_,T_,T_,T_,T_,T_,T_,T_,T_,T_,F_,F_,F_,F_] HT_ ?_
        refine pN 30 (some 40) #[T_,T_,T_,T_,T_,T_,T_,T_,T_,T_,T_,T_,T_,T_,T_,T_,T_,T_,T_,T_,T_,T_,T_,T_,T_,T_,T_,T_,T_,T_,T_,F_,F_,F_] HT_ ?_
        refine pN 31 (some 41) #[T_,T_,T_,T_,T_,T_,T_,T_,T_,T_,T_,T_,T_,T_,T_,T_,T_,T_,T_,T_,T_,T_,T_,T_,T_,T_,T_,T_,T_,T_,T_,T_,F_,F_] HT_ ?_
        refine pU 32 (some 42) #[T_,T_,T_,T_,T_,T_,T_,T_,T_,T_,T_,T_,T_,T_,T_,T_,T_,T_,T_,T_,T_,T_,T_,T_,T_,T_,T_,T_,T_,T_,T_,T_,T_,F_] HT_ ?_
        refine pU 33 (some 43) #[T_,T_,T_,T_,T_,T_,T_,T_,T_,T_,T_,T_,T_,T_,T_,T_,T_,T_,T_,T_,T_,T_,T_,T_,T_,T_,T_,T_,T_,T_,T_,T_,T_,T_] HT_ ?_
        refine done_ (done_of HT_.out (by kernel_rfl)) ?_
        try go_wp2
        go_roundg k1
        case measure => have := HK1.out; omega
        case rel => exact ⟨(wrap64 (x3_1 + 1)), eY, H', ⟨by have := HK1.out; omega⟩, ⟨qH⟩⟩
     ·replace c5 := Bool.eq_false_iff.mpr c5
      subst c5
      rw [if_neg nF_] at H
      obtain rfl := Option.some.inj H
      try go_wp2
      have n0_ := Aside0.mk (yD_ HB.out)
      clear HB
      have HB := n0_
      clear n0_
      have p195 : 0 ≤ (x3_1 : Int) := of_decide_eq_true aS
      have q195 : x3_1 < (l0.length : Int) := of_decide_eq_true aS
      obtain ⟨ad195, e195, hx195_0, hx195_1⟩ := at_T49 HR0.out x3_1 p195 q195
      have hw195_1 := hx195_1
      have hw195_0 := hx195_0
      cases e195
      replace hx195_0 := (HB.out.cell (World.block_lt_of_cell? w _ hx195_0)).trans hx195_0
      replace hx195_1 := (HB.out.cell (World.block_lt_of_cell? w _ hx195_1)).trans hx195_1
      replace p195 := eq_true p195
      replace q195 := eq_true q195
      refine start_ (n := 34) (S := fun w' => w'.cell? (ad195.add ((x3_1).toNat * 2)) = some (.string ((rd_T49 l0 x3_1).f0)) ∧ w'.cell? ⟨(ad195.add ((x3_1).toNat * 2)).block, (ad195.add ((x3_1).toNat * 2)).off + 1, none⟩ = some (.string ((rd_T49 l0 x3_1).f1))) (ds := []) #[F_,F_,F_,F_,F_,F_,F_,F_,F_,F_,F_,F_,F_,F_,F_,F_,F_,F_,F_,F_,F_,F_,F_,F_,F_,F_,F_,F_,F_,F_,F_,F_,F_,F_] (by kernel_rfl) rfl rfl ⟨((HB.out.cell (World.block_lt_of_cell? w _ hw195_0)).trans hw195_0), ((HB.out.cell (World.block_lt_of_cell? w _ hw195_1)).trans hw195_1)⟩ (fun hHeld => ?_); refine with_tabW armadaref05_May.tab4 armadaref05_May.bits4 (fun HT_ HW_ => ?_)
      generalize wr.drew = w20 at HB hx195_0 hx195_1 hHeld ⊢
      refine pU 0 (some 10) #[T_,F_,F_,F_,F_,F_,F_,F_,F_,F_,F_,F_,F_,F_,F_,F_,F_,F_,F_,F_,F_,F_,F_,F_,F_,F_,F_,F_,F_,F_,F_,F_,F_,F_] HT_ ?_
      refine pU 1 (some 11) #[T_,T_,F_,F_,F_,F_,F_,F_,F_,F_,F_,F_,F_,F_,F_,F_,F_,F_,F_,F_,F_,F_,F_,F_,F_,F_,F_,F_,F_,F_,F_,F_,F_,F_] HT_ ?_
      refine pU 2 (some 12) #[T_,T_,T_,F_,F_,F_,F_,F_,F_,F_,F_,F_,F_,F_,F_,F_,F_,F_,F_,F_,F_,F_,F_,F_,F_,F_,F_,F_,F_,F_,F_,F_,F_,F_] HT_ ?_
      refine pU 3 (some 13) #[T_,T_,T_,T_,F_,F_,F_,F_,F_,F_,F_,F_,F_,F_,F_,F_,F_,F_,F_,F_,F_,F_,F_,F_,F_,F_,F_,F_,F_,F_,F_,F_,F_,F_] HT_ ?_
      refine tK 4 (some 14) #[T_,T_,T_,T_,T_,F_,F_,F_,F_,F_,F_,F_,F_,F_,F_,F_,F_,F_,F_,F_,F_,F_,F_,F_,F_,F_,F_,F_,F_,F_,F_,F_,F_,F_] HT_ HW_ hHeld ?_
      refine oN 5 (some 15) #[T_,T_,T_,T_,T_,T_,F_,F_,F_,F_,F_,F_,F_,F_,F_,F_,F_,F_,F_,F_,F_,F_,F_,F_,F_,F_,F_,F_,F_,F_,F_,F_,F_,F_] HT_ (fun K hK => ?_)
      refine gO Tryd.func15 #[.string ((rd_T49 l0 x3_1).f0)] ?_
      with_reducible refine (armadaref05_Path.calls k1 ((rd_T49 l0 x3_1).f0) false _ A4.out).mono ?_
      rintro e w21 ⟨rfl, hb⟩
      refine ⟨_, rfl, ?_⟩
      have n0_ := wH hb
      clear HB
      have HB := n0_
      clear n0_
      (try clear hb)
      (try clear hb2)
      (try clear hk)
      (try clear hi)
      refine hK.out _ _ ⟨((HB.out.cell (World.block_lt_of_cell? w _ hw195_0)).trans hw195_0), ((HB.out.cell (World.block_lt_of_cell? w _ hw195_1)).trans hw195_1)⟩ (fun hHeld => ?_)
      clear hK K
      refine nS (some 15) ?_
      refine pU 6 (some 16) #[T_,T_,T_,T_,T_,T_,T_,F_,F_,F_,F_,F_,F_,F_,F_,F_,F_,F_,F_,F_,F_,F_,F_,F_,F_,F_,F_,F_,F_,F_,F_,F_,F_,F_] HT_ ?_
      refine pU 7 (some 17) #[T_,T_,T_,T_,T_,T_,T_,T_,F_,F_,F_,F_,F_,F_,F_,F_,F_,F_,F_,F_,F_,F_,F_,F_,F_,F_,F_,F_,F_,F_,F_,F_,F_,F_] HT_ ?_
      refine pN 8 (some 18) #[T_,T_,T_,T_,T_,T_,T_,T_,T_,F_,F_,F_,F_,F_,F_,F_,F_,F_,F_,F_,F_,F_,F_,F_,F_,F_,F_,F_,F_,F_,F_,F_,F_,F_] HT_ ?_
      refine pN 9 (some 19) #[T_,T_,T_,T_,T_,T_,T_,T_,T_,T_,F_,F_,F_,F_,F_,F_,F_,F_,F_,F_,F_,F_,F_,F_,F_,F_,F_,F_,F_,F_,F_,F_,F_,F_] HT_ ?_
      refine pN 10 (some 20) #[T_,T_,T_,T_,T_,T_,T_,T_,T_,T_,T_,F_,F_,F_,F_,F_,F_,F_,F_,F_,F_,F_,F_,F_,F_,F_,F_,F_,F_,F_,F_,F_,F_,F_] HT_ ?_
      refine pN 11 (some 21) #[T_,T_,T_,T_,T_,T_,T_,T_,T_,T_,T_,T_,F_,F_,F_,F_,F_,F_,F_,F_,F_,F_,F_,F_,F_,F_,F_,F_,F_,F_,F_,F_,F_,F_] HT_ ?_
      refine pN 12 (some 22) #[T_,T_,T_,T_,T_,T_,T_,T_,T_,T_,T_,T_,T_,F_,F_,F_,F_,F_,F_,F_,F_,F_,F_,F_,F_,F_,F_,F_,F_,F_,F_,F_,F_,F_] HT_ ?_
      refine pN 13 (some 23) #[T_,T_,T_,T_,T_,T_,T_,T_,T_,T_,T_,T_,T_,T_,F_,F_,F_,F_,F_,F_,F_,F_,F_,F_,F_,F_,F_,F_,F_,F_,F_,F_,F_,F_] HT_ ?_
      refine pN 14 (some 24) #[T_,T_,T_,T_,T_,T_,T_,T_,T_,T_,T_,T_,T_,T_,T_,F_,F_,F_,F_,F_,F_,F_,F_,F_,F_,F_,F_,F_,F_,F_,F_,F_,F_,F_] HT_ ?_
      refine pU 15 (some 25) #[T_,T_,T_,T_,T_,T_,T_,T_,T_,T_,T_,T_,T_,T_,T_,T_,F_,F_,F_,F_,F_,F_,F_,F_,F_,F_,F_,F_,F_,F_,F_,F_,F_,F_] HT_ ?_
      refine pU 16 (some 26) #[T_,T_,T_,T_,T_,T_,T_,T_,T_,T_,T_,T_,T_,T_,T_,T_,T_,F_,F_,F_,F_,F_,F_,F_,F_,F_,F_,F_,F_,F_,F_,F_,F_,F_] HT_ ?_
      refine pN 17 (some 27) #[T_,T_,T_,T_,T_,T_,T_,T_,T_,T_,T_,T_,T_,T_,T_,T_,T_,T_,F_,F_,F_,F_,F_,F_,F_,F_,F_,F_,F_,F_,F_,F_,F_,F_] HT_ ?_
      refine pN 18 (some 28) #[T_,T_,T_,T_,T_,T_,T_,T_,T_,T_,T_,T_,T_,T_,T_,T_,T_,T_,T_,F_,F_,F_,F_,F_,F_,F_,F_,F_,F_,F_,F_,F_,F_,F_] HT_ ?_
      refine pN 19 (some 29) #[T_,T_,T_,T_,T_,T_,T_,T_,T_,T_,T_,T_,T_,T_,T_,T_,T_,T_,T_,T_,F_,F_,F_,F_,F_,F_,F_,F_,F_,F_,F_,F_,F_,F_] HT_ ?_
      refine pN 20 (some 30) #[T_,T_,T_,T_,T_,T_,T_,T_,T_,T_,T_,T_,T_,T_,T_,T_,T_,T_,T_,T_,T_,F_,F_,F_,F_,F_,F_,F_,F_,F_,F_,F_,F_,F_] HT_ ?_
      refine pN 21 (some 31) #[T_,T_,T_,T_,T_,T_,T_,T_,T_,T_,T_,T_,T_,T_,T_,T_,T_,T_,T_,T_,T_,T_,F_,F_,F_,F_,F_,F_,F_,F_,F_,F_,F_,F_] HT_ ?_
      refine pN 22 (some 32) #[T_,T_,T_,T_,T_,T_,T_,T_,T_,T_,T_,T_,T_,T_,T_,T_,T_,T_,T_,T_,T_,T_,T_,F_,F_,F_,F_,F_,F_,F_,F_,F_,F_,F_] HT_ ?_
      refine pN 23 (some 33) #[T_,T_,T_,T_,T_,T_,T_,T_,T_,T_,T_,T_,T_,T_,T_,T_,T_,T_,T_,T_,T_,T_,T_,T_,F_,F_,F_,F_,F_,F_,F_,F_,F_,F_] HT_ ?_
      refine pN 24 (some 34) #[T_,T_,T_,T_,T_,T_,T_,T_,T_,T_,T_,T_,T_,T_,T_,T_,T_,T_,T_,T_,T_,T_,T_,T_,T_,F_,F_,F_,F_,F_,F_,F_,F_,F_] HT_ ?_
      refine pN 25 (some 35) #[T_,T_,T_,T_,T_,T_,T_,T_,T_,T_,T_,T_,T_,T_,T_,T_,T_,T_,T_,T_,T_,T_,T_,T_,T_,T_,F_,F_,F_,F_,F_,F_,F_,F_] HT_ ?_
      refine pN 26 (some 36) #[T_,T_,T_,T_,T_,T_,T_,T_,T_,T_,T_,T_,T_,T_,T_,T_,T_,T_,T_,T_,T_,T_,T_,T_,T_,T_,T_,F_,F_,F_,F_,F_,F_,F_] HT_ ?_
      refine pN 27 (some 37) #[T_,T_,T_,T_,T_,T_,T_,T_,T_,T_,T_,T_,T_,T_,T_,T_,T_,T_,T_,T_,T_,T_,T_,T_,T_,T_,T_,T_,F_,F_,F_,F_,F_,F_] HT_ ?_
      refine pN 28 (some 38) #[T_,T_,T_,T_,T_,T_,T_,T_,T_,T_,T_,T_,T_,T_,T_,T_,T_,T_,T_,T_,T_,T_,T_,T_,T_,T_,T_,T_,T_,F_,F_,F_,F_,F_] HT_ ?_
      refine pN 29 (some 39) #[T_,T_,T_,T_,T_,T_,T_,T_,T_,T_,T_,T_,T_,T_,T_,T_,T_,T_,T_,T_,T_,T_,T_,T_,T_,T_,T_,T_,T_,T_,F_,F_,F_,F_] HT_ ?_
      refine pN 30 (some 40) #[T_,T_,T_,T_,T_,T_,T_,T_,T_,T_,T_,T_,T_,T_,T_,T_,T_,T_,T_,T_,T_,T_,T_,T_,T_,T_,T_,T_,T_,T_,T_,F_,F_,F_] HT_ ?_
      refine pN 31 (some 41) #[T_,T_,T_,T_,T_,T_,T_,T_,T_,T_,T_,T_,T_,T_,T_,T_,T_,T_,T_,T_,T_,T_,T_,T_,T_,T_,T_,T_,T_,T_,T_,T_,F_,F_] HT_ ?_
      refine pN 32 (some 42) #[T_,T_,T_,T_,T_,T_,T_,T_,T_,T_,T_,T_,T_,T_,T_,T_,T_,T_,T_,T_,T_,T_,T_,T_,T_,T_,T_,T_,T_,T_,T_,T_,T_,F_] HT_ ?_
      refine pU 33 (some 43) #[T_,T_,T_,T_,T_,T_,T_,T_,T_,T_,T_,T_,T_,T_,T_,T_,T_,T_,T_,T_,T_,T_,T_,T_,T_,T_,T_,T_,T_,T_,T_,T_,T_,T_] HT_ ?_
      refine done_ (done_of HT_.out (by kernel_rfl)) ?_
      try go_wp2
      go_ret
      exact ⟨eX, qH⟩
    ·rw [if_neg c3] at H
     exact absurd H (by simp)
   ·rw [if_neg c2] at H
    have c2b0 : decide (x3_1 < (l0.length : Int)) = false := decide_eq_false c2
    clear c2
    obtain rfl := Option.some.inj H
    go_wp2
    go_ret
    exact ⟨eX, qH⟩
end
mutual
def armadaref05_Apply.l0 : Nat → List (S45) → List (S49) → Int → Option ((List (S49)) × Int)
 | 0, _, _, _ => none
 | k + 1, x1, x6, x7 => if x7 < (x1.length : Int) then (if 0 ≤ x7 then ((armadaref05_Get.f k x6 ((rd_T45 x1 x7).f1)).bind fun bt252 => ((armadaref05_Path.f k ((rd_T45 x1 x7).f1)).bind fun t254 => (if t254 = true then (if (rd_T45 x1 x7).f0 = true then (armadaref05_Apply.j1 k x1 x6 x7 (!bt252.2) ((rd_T45 x1 x7).f0) ((rd_T45 x1 x7).f1) ((rd_T45 x1 x7).f2)) else (armadaref05_Apply.j1 k x1 x6 x7 false ((rd_T45 x1 x7).f0) ((rd_T45 x1 x7).f1) ((rd_T45 x1 x7).f2))) else (some (([] : List (S49)), 6))))) else (none)) else (some (x6, 0))
def armadaref05_Apply.j1 : Nat → List (S45) → List (S49) → Int → Bool → Bool → ByteArray → ByteArray → Option ((List (S49)) × Int)
 | 0, _, _, _, _, _, _, _ => none
 | k + 1, x1, x6, x7, x43, x252000, x252001, x252002 => if x43 = true then (some (([] : List (S49)), 5)) else (if x252000 = true then (armadaref05_Apply.j2 k x1 x6 x7 false x252000 x252001 x252002) else (armadaref05_Apply.j2 k x1 x6 x7 (decide ((x252002.size : Int) > 4096)) x252000 x252001 x252002))
def armadaref05_Apply.j2 : Nat → List (S45) → List (S49) → Int → Bool → Bool → ByteArray → ByteArray → Option ((List (S49)) × Int)
 | 0, _, _, _, _, _, _, _ => none
 | k + 1, x1, x6, x7, x52, x252000, x252001, x252002 => if x52 = true then (some (([] : List (S49)), 2)) else ((armadaref05_without.f k x6 x252001).bind fun t255 => (if x252000 = true then (armadaref05_Apply.l0 k x1 t255 (wrap64 (x7 + 1))) else (if (t255.length : Int) ≥ 40 then (some (([] : List (S49)), 3)) else ((armadaref05_with.f k t255 x252001 x252002).bind fun t258 => (armadaref05_Apply.l0 k x1 t258 (wrap64 (x7 + 1)))))))
end
def armadaref05_Apply.f (k : Nat) (l0 : List (S49)) (l1 : List (S45)) : Option ((List (S49)) × Int) := (armadaref05_May.f k l0).bind fun t243 => (if t243 = true then ((some (([] : List (S49)) : List (S49))).bind fun y244 => (if y244.length + l0.length < 4398046511104 then (armadaref05_Apply.l0 k l1 (y244 ++ l0) 0) else (none))) else (some (([] : List (S49)), 1)))
theorem armadaref05_Apply.mono_l : ∀ k, (∀ y0 y1 y2, LeO (armadaref05_Apply.l0 k y0 y1 y2) (armadaref05_Apply.l0 (k + 1) y0 y1 y2)) ∧ (∀ y0 y1 y2 y3 y4 y5 y6, LeO (armadaref05_Apply.j1 k y0 y1 y2 y3 y4 y5 y6) (armadaref05_Apply.j1 (k + 1) y0 y1 y2 y3 y4 y5 y6)) ∧ (∀ y0 y1 y2 y3 y4 y5 y6, LeO (armadaref05_Apply.j2 k y0 y1 y2 y3 y4 y5 y6) (armadaref05_Apply.j2 (k + 1) y0 y1 y2 y3 y4 y5 y6))
 | 0 => ⟨fun _ _ _ r h => by simp [armadaref05_Apply.l0] at h, fun _ _ _ _ _ _ _ r h => by simp [armadaref05_Apply.j1] at h, fun _ _ _ _ _ _ _ r h => by simp [armadaref05_Apply.j2] at h⟩
 | k + 1 => by
  obtain ⟨ih0, ih1, ih2⟩ := armadaref05_Apply.mono_l k
  refine ⟨?_, ?_, ?_⟩
  ·intro y0 y1 y2
   unfold armadaref05_Apply.l0
   repeat' first
   | (with_reducible exact ih0 _ _ _)
   | (with_reducible exact ih1 _ _ _ _ _ _ _)
   | (with_reducible exact ih2 _ _ _ _ _ _ _)
   | (with_reducible exact armadaref05_Get.mono _ _ _)
   | (with_reducible exact armadaref05_May.mono _ _)
   | (with_reducible exact armadaref05_Path.mono _ _)
   | (with_reducible exact armadaref05_with.mono _ _ _ _)
   | (with_reducible exact armadaref05_without.mono _ _ _)
   | (with_reducible exact LeO.refl _)
   | (with_reducible exact LeO.none _)
   | (with_reducible refine LeO.ite ?_ ?_)
   | (with_reducible refine LeO.bind ?_ (fun _ => ?_))
   | exact ih0 _ _ _
   | exact ih1 _ _ _ _ _ _ _
   | exact ih2 _ _ _ _ _ _ _
   | exact armadaref05_Get.mono _ _ _
   | exact armadaref05_May.mono _ _
   | exact armadaref05_Path.mono _ _
   | exact armadaref05_with.mono _ _ _ _
   | exact armadaref05_without.mono _ _ _
   | exact LeO.none _
   | refine LeO.ite ?_ ?_
   | refine LeO.bind ?_ (fun _ => ?_)
  ·intro y0 y1 y2 y3 y4 y5 y6
   unfold armadaref05_Apply.j1
   repeat' first
   | (with_reducible exact ih0 _ _ _)
   | (with_reducible exact ih1 _ _ _ _ _ _ _)
   | (with_reducible exact ih2 _ _ _ _ _ _ _)
   | (with_reducible exact armadaref05_Get.mono _ _ _)
   | (with_reducible exact armadaref05_May.mono _ _)
   | (with_reducible exact armadaref05_Path.mono _ _)
   | (with_reducible exact armadaref05_with.mono _ _ _ _)
   | (with_reducible exact armadaref05_without.mono _ _ _)
   | (with_reducible exact LeO.refl _)
   | (with_reducible exact LeO.none _)
   | (with_reducible refine LeO.ite ?_ ?_)
   | (with_reducible refine LeO.bind ?_ (fun _ => ?_))
   | exact ih0 _ _ _
   | exact ih1 _ _ _ _ _ _ _
   | exact ih2 _ _ _ _ _ _ _
   | exact armadaref05_Get.mono _ _ _
   | exact armadaref05_May.mono _ _
   | exact armadaref05_Path.mono _ _
   | exact armadaref05_with.mono _ _ _ _
   | exact armadaref05_without.mono _ _ _
   | exact LeO.none _
   | refine LeO.ite ?_ ?_
   | refine LeO.bind ?_ (fun _ => ?_)
  ·intro y0 y1 y2 y3 y4 y5 y6
   unfold armadaref05_Apply.j2
   repeat' first
   | (with_reducible exact ih0 _ _ _)
   | (with_reducible exact ih1 _ _ _ _ _ _ _)
   | (with_reducible exact ih2 _ _ _ _ _ _ _)
   | (with_reducible exact armadaref05_Get.mono _ _ _)
   | (with_reducible exact armadaref05_May.mono _ _)
   | (with_reducible exact armadaref05_Path.mono _ _)
   | (with_reducible exact armadaref05_with.mono _ _ _ _)
   | (with_reducible exact armadaref05_without.mono _ _ _)
   | (with_reducible exact LeO.refl _)
   | (with_reducible exact LeO.none _)
   | (with_reducible refine LeO.ite ?_ ?_)
   | (with_reducible refine LeO.bind ?_ (fun _ => ?_))
   | exact ih0 _ _ _
   | exact ih1 _ _ _ _ _ _ _
   | exact ih2 _ _ _ _ _ _ _
   | exact armadaref05_Get.mono _ _ _
   | exact armadaref05_May.mono _ _
   | exact armadaref05_Path.mono _ _
   | exact armadaref05_with.mono _ _ _ _
   | exact armadaref05_without.mono _ _ _
   | exact LeO.none _
   | refine LeO.ite ?_ ?_
   | refine LeO.bind ?_ (fun _ => ?_)
theorem armadaref05_Apply.mono : ∀ a0 a1 k, LeO (armadaref05_Apply.f k a0 a1) (armadaref05_Apply.f (k + 1) a0 a1) := by
 intro a0 a1 k
 obtain ⟨ih0, ih1, ih2⟩ := armadaref05_Apply.mono_l k
 unfold armadaref05_Apply.f
 repeat' first
   | (with_reducible exact ih0 _ _ _)
   | (with_reducible exact ih1 _ _ _ _ _ _ _)
   | (with_reducible exact ih2 _ _ _ _ _ _ _)
   | (with_reducible exact armadaref05_Get.mono _ _ _)
   | (with_reducible exact armadaref05_May.mono _ _)
   | (with_reducible exact armadaref05_Path.mono _ _)
   | (with_reducible exact armadaref05_with.mono _ _ _ _)
   | (with_reducible exact armadaref05_without.mono _ _ _)
   | (with_reducible exact LeO.refl _)
   | (with_reducible exact LeO.none _)
   | (with_reducible refine LeO.ite ?_ ?_)
   | (with_reducible refine LeO.bind ?_ (fun _ => ?_))
   | exact ih0 _ _ _
   | exact ih1 _ _ _ _ _ _ _
   | exact ih2 _ _ _ _ _ _ _
   | exact armadaref05_Get.mono _ _ _
   | exact armadaref05_May.mono _ _
   | exact armadaref05_Path.mono _ _
   | exact armadaref05_with.mono _ _ _ _
   | exact armadaref05_without.mono _ _ _
   | exact LeO.none _
   | refine LeO.ite ?_ ?_
   | refine LeO.bind ?_ (fun _ => ?_)
set_option maxHeartbeats 8000000 in
set_option maxRecDepth 100000 in
theorem armadaref05_Apply.calls (k : Nat) (A0 : Option Addr) (c0 : Nat) (l0 : List (S49)) (A1 : Option Addr) (c1 : Nat) (l1 : List (S45)) (r1 : List (S49)) (r2 : Int) (w : World) (hr0 : Kd.C k49 w A0 l0.length l0) (hc0 : l0.length ≤ c0) (hr1 : Kd.C k45 w A1 l1.length l1) (hc1 : l1.length ≤ c1) (h : armadaref05_Apply.f k l0 l1 = some (r1, r2)) :
  Calls Tryd.prog 22 #[.slice A0 l0.length c0, .slice A1 l1.length c1] w fun e w' => ∃ v0_ : Value, e = .returned (.tuple #[v0_, .int .i64 r2]) ∧ Kd.R k49 49 w' w.heap.size (fun _ => True) v0_ r1 ∧ Below w.heap.size w w' := by
 have hu45 := Tryd.underlying45
 have hu49 := Tryd.underlying49
 have HR0 := Aside0.mk hr0
 have HC0 := Aside0.mk hc0
 clear hr0 hc0
 have HR1 := Aside0.mk hr1
 have HC1 := Aside0.mk hc1
 clear hr1 hc1
 have HB := Aside0.mk (Below.refl w.heap.size w)
 have H := h
 unfold armadaref05_Apply.f at H
 clear h
 replace H := Option.bind_eq_some_iff.mp H
 obtain ⟨t243, A30, H⟩ := H
 try dsimp only at H
 have A3 := Aside0.mk A30
 clear A30
 by_cases c4 : t243 = true
 ·subst c4
  rw [if_pos rfl] at H
  obtain ⟨y244, hy244⟩ : ∃ y_ : List (S49), y_ = (([] : List (S49))) := ⟨_, rfl⟩
  replace H : (if y244.length + l0.length < 4398046511104 then (armadaref05_Apply.l0 k l1 (y244 ++ l0) 0) else (none)) = some (r1, r2) := by first | (rw [hy244]; with_reducible exact H) | (have H2_ := (Option.bind_some _ _).symm.trans H; rw [hy244]; with_reducible exact H2_) | (have H2_ := (Option.bind_some _ _).symm.trans H; with_reducible exact H2_) | with_reducible exact H | (rw [hy244]; exact H) | exact H
  have Ny244 := Aside0.mk hy244
  clear hy244
  by_cases c5 : y244.length + l0.length < 4398046511104
  ·rw [if_pos c5] at H
   have LMc5 := Aside0.mk c5
   clear c5
   obtain ⟨y247, hy247⟩ : ∃ y_ : List (S49), y_ = (y244 ++ l0) := ⟨_, rfl⟩
   replace H : (armadaref05_Apply.l0 k l1 y247 0) = some (r1, r2) := by first | (rw [hy247]; with_reducible exact H) | (have H2_ := (Option.bind_some _ _).symm.trans H; rw [hy247]; with_reducible exact H2_) | (have H2_ := (Option.bind_some _ _).symm.trans H; with_reducible exact H2_) | with_reducible exact H | (rw [hy247]; exact H) | exact H
   have Ny247 := Aside0.mk hy247
   clear hy247
   have H' := Aside0.mk H
   clear H
   go_enter Tryd.func22, Tryd.ntmps22
   go_wp2_with (first | ((with_reducible refine gate_callee (f := 17) rfl ?_); refine gL (some 12) Tryd.func17 #[.slice A0 l0.length c0] ?_; (with_reducible refine (armadaref05_May.calls k _ _ l0 true _ ?side1 ?side2 A3.out).mono ?_); (case side1 => repeat (first | exact HR0.out | (with_reducible refine Kd.C_alloc ?_ _) | (with_reducible refine Kd.C_drewN ?_ _) | (with_reducible refine Kd.C_drew ?_))); (case side2 => exact HC0.out); rintro e w6 ⟨rfl, hb⟩; refine ⟨_, rfl, ?_⟩; have n0_ := wH hb; clear HB; have HB := n0_; clear n0_; (try clear hb); (try clear hb2); (try clear hk); (try clear hi)) | ((with_reducible refine gate_dst (N := 14) rfl ?_); (try (refine gate_guard (by rfl) ?_; dsimp only)); refine Kd.R_lit k49 _ 49 ?hg (N := 14) ?hd (xs := ([] : List (S49))) (inner := []) (ok := fun _ => True) (okp := fun _ => True) ?hr ?hp (fun _ hk => hk) trivial (Below.refl _ _) (Nat.le_refl _) (by simp) ?_; (case hd => rfl); (case hg => rfl); (case hr => first | (go_simp; done) | (go_simp; rfl)); (case hp => exact (Reps.none _ _)); intro v245 w7 ho8 hb hg_ hnew_; clear hg_ hnew_; (first | rw [← Ny244.out] at ho8 | (simp only [Int.reduceToNat] at ho8; rw [← Ny244.out] at ho8)); have n0_ := Aside0.mk (Kd.R_lower ho8 (below_size qH)); have n1_ := wH hb; clear HB; have HO246 := n0_; have HB := n1_; clear n0_ n1_; clear hb ho8) | ((with_reducible refine gate_builtin (b := .append) (xs := #[.tmp 14, .tmp 15]) rfl ?_); (try (refine gate_guard (by rfl) ?_; dsimp only)); at_builtin; refine Kd.R_append_rows k49 (w0 := w) w.heap.size rfl (.tmp 14) (.tmp 15) 22 49 (.agg #[(.string ⟨#[]⟩), (.string ⟨#[]⟩)]) 32 rfl Tryd.underlying22 info49 rfl (by decide) (by omega) v245 y244 l0 _ _ _ (fun _ => True) (fun _ => False) rfl rfl ?aO ?aR (fun _ _ h => h) (fun _ h => h.elim) ?aF ?aB ?aS ?aL ?_; (case aR => repeat (first | exact (Kd.C_below HR0.out HB.out) | (with_reducible refine Kd.C_alloc ?_ _) | (with_reducible refine Kd.C_drewN ?_ _) | (with_reducible refine Kd.C_drew ?_))); (case aB => exact qH); (case aF => exact (fun _ _ => trivial)); (case aO => exact (qR HO246.out)); (case aS => exact (below_size qH)); (case aL => have := LMc5.out; omega); intro v248 w9 ho hb hg hat; rw [← Ny247.out] at ho; have n0_ := Aside0.mk (hb); have n1_ := Aside0.mk (ho); clear HB; clear HO246; have HB := n0_; have HO249 := n1_; clear n0_ n1_; clear ho hb hg hat))
   go_loopg [6, 7] k (fun kq v6 v7 w' => ∃ (x6_1 : List (S49)) (x7_1 : Int), v7 = .int .i64 x7_1 ∧ Aside0 (armadaref05_Apply.l0 kq l1 x6_1 x7_1 = some (r1, r2)) ∧ Aside0 (kq ≤ k) ∧ Aside0 (Kd.R k49 49 w' w.heap.size (fun _ => True) v6 x6_1) ∧ Aside0 (Below w.heap.size w w'))
   case atStart => exact ⟨(y247), (0), eY, H', ⟨Nat.le_refl _⟩, ⟨qR HO249.out⟩, ⟨qH⟩⟩
   case round =>
    clear H'
    (try clear p2); (try clear c4)
    obtain ⟨x6_1, x7_1, rfl, HA, HK1, HO_6, HB⟩ := hrel
    cases gk with
    | zero => exact absurd HA.out (by simp [armadaref05_Apply.l0])
    | succ k1 =>
     have H := HA.out
     clear HA
     simp only [armadaref05_Apply.l0] at H
     by_cases c10 : x7_1 < (l1.length : Int)
     ·rw [if_pos c10] at H
      have c10b0 : decide (x7_1 < (l1.length : Int)) = true := decide_eq_true c10
      clear c10
      by_cases c11 : 0 ≤ x7_1
      ·rw [if_pos c11] at H
       have c11b0 : decide (0 ≤ x7_1) = true := decide_eq_true c11
       clear c11
       replace H := Option.bind_eq_some_iff.mp H
       obtain ⟨⟨t252, t253⟩, A120, H⟩ := H
       try dsimp only at H
       have A12 := Aside0.mk A120
       clear A120
       replace H := Option.bind_eq_some_iff.mp H
       obtain ⟨t254, A130, H⟩ := H
       try dsimp only at H
       have A13 := Aside0.mk A130
       clear A130
       by_cases c14 : t254 = true
       ·subst c14
        rw [if_pos rfl] at H
        have HC15 := Aside0.mk H
        clear H
        have p250 : 0 ≤ (x7_1 : Int) := of_decide_eq_true aS
        have q250 : x7_1 < (l1.length : Int) := of_decide_eq_true aS
        obtain ⟨ad250, e250, hx250_0, hx250_1, hx250_2⟩ := at_T45 HR1.out x7_1 p250 q250
        cases e250
        replace hx250_0 := (HB.out.cell (World.block_lt_of_cell? w _ hx250_0)).trans hx250_0
        replace hx250_1 := (HB.out.cell (World.block_lt_of_cell? w _ hx250_1)).trans hx250_1
        replace hx250_2 := (HB.out.cell (World.block_lt_of_cell? w _ hx250_2)).trans hx250_2
        replace p250 := eq_true p250
        replace q250 := eq_true q250
        go_upto_region 11 with (first | ((with_reducible refine gate_dst (N := 8) rfl ?_); (try (refine gate_guard (by rfl) ?_; dsimp only)); refine bE (N := 8) (cs := #[.bool false, .string (⟨#[]⟩ : ByteArray), .string (⟨#[]⟩ : ByteArray)]) (t := 45) ?_; intro gb251 hg w16 hbox hb; have n0_ := Aside0.mk (Kd.R_below (qR HO_6.out) hb); have n1_ := wH hb; have n2_ := Aside0.mk (hbox); have n3_ := Aside0.mk ((qG hg)); have n4_ := Aside0.mk ((qG hg)); clear HO_6; clear HB; have HO_6 := n0_; have HB := n1_; have BK251 := n2_; have GE251 := n4_; clear n0_ n1_ n2_ n3_ n4_; clear hb hbox hg; obtain ⟨hcz17_0, hcz17_1, hcz17_2, hfz17_0, hfz17_1, hfz17_2⟩ := e3_ BK251; obtain ⟨Ao18, co18, eo18⟩ := Kd.R_slice HO_6.out; subst eo18) | ((with_reducible refine gate_callee (f := 13) rfl ?_); refine gL (some 31) Tryd.func13 #[.slice Ao18 x6_1.length co18, .string ((rd_T45 l1 x7_1).f1)] ?_; (with_reducible refine (armadaref05_Get.calls k1 _ _ x6_1 ((rd_T45 l1 x7_1).f1) t252 t253 _ ?side1 ?side2 A12.out).mono ?_); (case side1 => refine (Kd.R_reads' (e := 49) (base := w.heap.size) (ok := fun k_ => True) (n := x6_1.length) (c := co18) ?_).2.2; exact (qR (rF3 HO_6.out BK251))); (case side2 => exact (Kd.R_reads' HO_6.out).2.1); rintro e w' ⟨rfl, ⟨nd, rfl⟩⟩; refine ⟨_, rfl, ?_⟩) | (go_at_call 13; (with_reducible refine (armadaref05_Get.calls k1 _ _ x6_1 ((rd_T45 l1 x7_1).f1) t252 t253 _ ?side1 ?side2 A12.out).mono ?_); (case side1 => refine (Kd.R_reads' (e := 49) (base := w.heap.size) (ok := fun k_ => True) (n := x6_1.length) (c := co18) ?_).2.2; exact (qR (rF3 HO_6.out BK251))); (case side2 => exact (Kd.R_reads' HO_6.out).2.1); rintro e w' ⟨rfl, ⟨nd, rfl⟩⟩) | ((with_reducible refine gate_callee (f := 15) rfl ?_); refine gL (some 36) Tryd.func15 #[.string ((rd_T45 l1 x7_1).f1)] ?_; (with_reducible refine (armadaref05_Path.calls k1 ((rd_T45 l1 x7_1).f1) true _ A13.out).mono ?_); rintro e w19 ⟨rfl, hb⟩; refine ⟨_, rfl, ?_⟩; have n0_ := Aside0.mk (Kd.R_below (qR (rF3 HO_6.out BK251)) hb); have n1_ := wP3 BK251 hb; have n2_ := wH hb; clear HO_6; clear BK251; clear HB; have HO_6 := n0_; have BK251 := n1_; have HB := n2_; clear n0_ n1_ n2_; (try clear hb); (try clear hb2); (try clear hk); (try clear hi)))
        (try simp only [Act.put, List.setIfInBounds_toArray, List.set_cons_zero, List.set_cons_succ])
        go_cut [43] (fun v43 wc => ∃ (kq : Nat) (x43_14 : Bool), v43 = .bool x43_14 ∧ Aside0 (armadaref05_Apply.j1 kq l1 x6_1 x7_1 x43_14 ((rd_T45 l1 x7_1).f0) ((rd_T45 l1 x7_1).f1) ((rd_T45 l1 x7_1).f2) = some (r1, r2)) ∧ Aside0 (kq ≤ k1) ∧ Aside0 (Kd.R k49 49 wc w.heap.size (fun _ => True) (.slice Ao18 x6_1.length co18) x6_1) ∧ Aside0 (wc.heap[gb251]? = some (.cells #[.bool ((rd_T45 l1 x7_1).f0), .string ((rd_T45 l1 x7_1).f1), .string ((rd_T45 l1 x7_1).f2)] 45 (0, 0))) ∧ Aside0 (Below w.heap.size w wc))
        case first =>
         have H := HC15.out
         clear HC15
         obtain ⟨bq20, hbq20⟩ : ∃ b_ : Bool, b_ = ((rd_T45 l1 x7_1).f0) := ⟨_, rfl⟩
         replace H : (if bq20 = true then (armadaref05_Apply.j1 k1 l1 x6_1 x7_1 (!t253) bq20 ((rd_T45 l1 x7_1).f1) ((rd_T45 l1 x7_1).f2)) else (armadaref05_Apply.j1 k1 l1 x6_1 x7_1 false bq20 ((rd_T45 l1 x7_1).f1) ((rd_T45 l1 x7_1).f2))) = some (r1, r2) := by rw [← hbq20] at H; exact H
         have Nbq20 := Aside0.mk hbq20
         clear hbq20
         have BKq := BK251
         rw [← Nbq20.out] at BKq
         (try rw [← Nbq20.out])
         by_cases c21 : bq20 = true
         ·subst c21
          rw [if_pos rfl] at H
          have H' := Aside0.mk H
          clear H
          have hcz22_0 := c0_ BKq
          have hcz22_1 := c1_ BKq
          have hcz22_2 := c2_ BKq
          have hfz22_0 := f_ BK251 0
          have hfz22_1 := f_ BK251 1
          have hfz22_2 := f_ BK251 2
          go_wp2
          go_meet
          case rel => exact ⟨_, (!t253), eY, ⟨by rw [← Nbq20.out]; exact H'.out⟩, ⟨by have := HK1.out; first | omega | exact Nat.le_refl _⟩, ⟨qR HO_6.out⟩, ⟨qB BK251⟩, ⟨qH⟩⟩
         ·replace c21 := Bool.eq_false_iff.mpr c21
          subst c21
          rw [if_neg nF_] at H
          have H' := Aside0.mk H
          clear H
          have hcz23_0 := c0_ BKq
          have hcz23_1 := c1_ BKq
          have hcz23_2 := c2_ BKq
          have hfz23_0 := f_ BK251 0
          have hfz23_1 := f_ BK251 1
          have hfz23_2 := f_ BK251 2
          go_wp2
          go_meet
          case rel => exact ⟨_, (false), eY, ⟨by rw [← Nbq20.out]; exact H'.out⟩, ⟨by have := HK1.out; first | omega | exact Nat.le_refl _⟩, ⟨qR HO_6.out⟩, ⟨qB BK251⟩, ⟨qH⟩⟩
        case rest =>
         clear HC15
         (try clear p2); (try clear q2); (try clear c10b0); (try clear c11b0); (try clear c14); (try clear q20); (try clear hcz17_0); (try clear hcz17_1); (try clear hcz17_2)
         (try clear hfz17_0); (try clear hfz17_1); (try clear hfz17_2); (try clear hx250_0); (try clear hx250_1); (try clear hx250_2); (try clear p2); (try clear p250)
         (try clear q250)
         obtain ⟨kq, x43_14, rfl, HA, HJ14, HO_6, BK251, HB⟩ := hcut
         cases kq with
         | zero => exact absurd HA.out (by simp [armadaref05_Apply.j1])
         | succ kj14 =>
          have H := HA.out
          clear HA
          simp only [armadaref05_Apply.j1] at H
          by_cases c24 : x43_14 = true
          ·subst c24
           rw [if_pos rfl] at H
           simp only [Option.some.injEq, Prod.mk.injEq] at H
           obtain ⟨rfl, rfl⟩ := H
           go_wp2
           go_ret2
           exact ⟨_, eX, by first | exact Kd.R_nil _ _ _ _ _ | exact Kd.N_nil _ _ _ _ _ | exact Kd.V_nil _ _ _ _ _ | exact Kd.Q_nil _ _ _ _ _ | exact Kd.S_nil _ _ _ _ _, qH⟩
          ·replace c24 := Bool.eq_false_iff.mpr c24
           subst c24
           rw [if_neg nF_] at H
           have HC25 := Aside0.mk H
           clear H
           go_upto_region 13 with (fail)
           go_cut [52] (fun v52 wc => ∃ (kq : Nat) (x52_24 : Bool), v52 = .bool x52_24 ∧ Aside0 (armadaref05_Apply.j2 kq l1 x6_1 x7_1 x52_24 ((rd_T45 l1 x7_1).f0) ((rd_T45 l1 x7_1).f1) ((rd_T45 l1 x7_1).f2) = some (r1, r2)) ∧ Aside0 (kq ≤ kj14) ∧ Aside0 (Kd.R k49 49 wc w.heap.size (fun _ => True) (.slice Ao18 x6_1.length co18) x6_1) ∧ Aside0 (wc.heap[gb251]? = some (.cells #[.bool ((rd_T45 l1 x7_1).f0), .string ((rd_T45 l1 x7_1).f1), .string ((rd_T45 l1 x7_1).f2)] 45 (0, 0))) ∧ Aside0 (Below w.heap.size w wc))
           case first =>
            have H := HC25.out
            clear HC25
            by_cases c26 : ((rd_T45 l1 x7_1).f0) = true
            ·rw [if_pos c26] at H
             have c26b0 : ((rd_T45 l1 x7_1).f0) = true := c26
             clear c26
             (first | rw [c26b0] | (simp only [i64_w, i32_w]; rw [c26b0]) | skip)
             have H' := Aside0.mk H
             clear H
             obtain ⟨hcz27_0, hcz27_1, hcz27_2, hfz27_0, hfz27_1, hfz27_2⟩ := e3_ BK251
             go_wp2
             go_meet
             case rel => exact ⟨_, (false), eY, H', ⟨by have := HK1.out; have := HJ14.out; first | omega | exact Nat.le_refl _⟩, ⟨qR HO_6.out⟩, ⟨qB BK251⟩, ⟨qH⟩⟩
            ·rw [if_neg c26] at H
             have c26b0 : ((rd_T45 l1 x7_1).f0) = false := by simpa using c26
             clear c26
             (first | rw [c26b0] | (simp only [i64_w, i32_w]; rw [c26b0]) | skip)
             have H' := Aside0.mk H
             clear H
             obtain ⟨hcz28_0, hcz28_1, hcz28_2, hfz28_0, hfz28_1, hfz28_2⟩ := e3_ BK251
             go_wp2
             go_meet
             case rel => exact ⟨_, (decide ((((rd_T45 l1 x7_1).f2).size : Int) > 4096)), eY, H', ⟨by have := HK1.out; have := HJ14.out; first | omega | exact Nat.le_refl _⟩, ⟨qR HO_6.out⟩, ⟨qB BK251⟩, ⟨qH⟩⟩
           case rest =>
            clear HC25
            (try clear p2); (try clear q2); (try clear q20); (try clear c24); (try clear p25); (try clear q25); (try clear p2); (try clear p250); (try clear q2)
            (try clear q20); (try clear q250)
            obtain ⟨kq, x52_24, rfl, HA, HJ24, HO_6, BK251, HB⟩ := hcut
            cases kq with
            | zero => exact absurd HA.out (by simp [armadaref05_Apply.j2])
            | succ kj24 =>
             have H := HA.out
             clear HA
             simp only [armadaref05_Apply.j2] at H
             by_cases c29 : x52_24 = true
             ·subst c29
              rw [if_pos rfl] at H
              simp only [Option.some.injEq, Prod.mk.injEq] at H
              obtain ⟨rfl, rfl⟩ := H
              go_wp2
              go_ret2
              exact ⟨_, eX, by first | exact Kd.R_nil _ _ _ _ _ | exact Kd.N_nil _ _ _ _ _ | exact Kd.V_nil _ _ _ _ _ | exact Kd.Q_nil _ _ _ _ _ | exact Kd.S_nil _ _ _ _ _, qH⟩
             ·replace c29 := Bool.eq_false_iff.mpr c29
              subst c29
              rw [if_neg nF_] at H
              replace H := Option.bind_eq_some_iff.mp H
              obtain ⟨t255, A300, H⟩ := H
              try dsimp only at H
              have A30 := Aside0.mk A300
              clear A300
              by_cases c31 : ((rd_T45 l1 x7_1).f0) = true
              ·rw [if_pos c31] at H
               have c31b0 : ((rd_T45 l1 x7_1).f0) = true := c31
               clear c31
               have H' := Aside0.mk H
               clear H
               obtain ⟨hcz32_0, hcz32_1, hcz32_2, hfz32_0, hfz32_1, hfz32_2⟩ := e3_ BK251
               go_wp2_with (first | ((with_reducible refine gate_callee (f := 39) rfl ?_); refine gL (some 56) Tryd.func39 #[.slice Ao18 x6_1.length co18, .string ((rd_T45 l1 x7_1).f1)] ?_; (with_reducible refine (armadaref05_without.calls kj24 _ _ x6_1 ((rd_T45 l1 x7_1).f1) t255 _ ?side1 ?side2 A30.out).mono ?_); (case side1 => exact qK (Kd.R_reads' HO_6.out).2.2); (case side2 => exact (Kd.R_reads' HO_6.out).2.1); rintro e w33 ⟨v256, rfl, ho0, hb⟩; refine ⟨_, rfl, ?_⟩; have n0_ := Aside0.mk (Kd.R_elder' (qR HO_6.out) (Kd.R_base ho0) hb); have n1_ := Aside0.mk (Kd.R_lower (Kd.R_new' ho0 (Kd.R_lt (qR HO_6.out))) (below_size qH)); have n2_ := wB BK251 hb; have n3_ := wH hb; clear HO_6; clear BK251; clear HB; have HO_6 := n0_; have HO257 := n1_; have BK251 := n2_; have HB := n3_; clear n0_ n1_ n2_ n3_; (try clear hb); (try clear hb2); (try clear hk); (try clear hi); (try clear ho0); obtain ⟨hcz34_0, hcz34_1, hcz34_2, hfz34_0, hfz34_1, hfz34_2⟩ := e3_ BK251))
               go_roundg kj24
               case measure => have := HK1.out; have := HJ14.out; have := HJ24.out; omega
               case rel => exact ⟨(t255), (wrap64 (x7_1 + 1)), eY, H', ⟨by have := HK1.out; have := HJ14.out; have := HJ24.out; omega⟩, ⟨by (with_reducible repeat (first | apply Kd.R_alloc | apply Kd.R_drewN | apply Kd.R_drew)); exact Kd.R_mono HO257.out (fun _ hk => trivial)⟩, ⟨qH⟩⟩
              ·rw [if_neg c31] at H
               have c31b0 : ((rd_T45 l1 x7_1).f0) = false := by simpa using c31
               clear c31
               by_cases c35 : (t255.length : Int) ≥ 40
               ·rw [if_pos c35] at H
                have c35b0 : decide (40 ≤ (t255.length : Int)) = true := decide_eq_true c35
                have c35b1 : decide (40 ≤ t255.length) = true := decide_eq_true (by omega)
                clear c35
                simp only [Option.some.injEq, Prod.mk.injEq] at H
                obtain ⟨rfl, rfl⟩ := H
                obtain ⟨hcz36_0, hcz36_1, hcz36_2, hfz36_0, hfz36_1, hfz36_2⟩ := e3_ BK251
                go_wp2_with (first | ((with_reducible refine gate_callee (f := 39) rfl ?_); refine gL (some 56) Tryd.func39 #[.slice Ao18 x6_1.length co18, .string ((rd_T45 l1 x7_1).f1)] ?_; (with_reducible refine (armadaref05_without.calls kj24 _ _ x6_1 ((rd_T45 l1 x7_1).f1) t255 _ ?side1 ?side2 A30.out).mono ?_); (case side1 => exact qK (Kd.R_reads' HO_6.out).2.2); (case side2 => exact (Kd.R_reads' HO_6.out).2.1); rintro e w37 ⟨v256, rfl, ho0, hb⟩; refine ⟨_, rfl, ?_⟩; have n0_ := Aside0.mk (Kd.R_elder' (qR HO_6.out) (Kd.R_base ho0) hb); have n1_ := Aside0.mk (Kd.R_lower (Kd.R_new' ho0 (Kd.R_lt (qR HO_6.out))) (below_size qH)); have n2_ := wB BK251 hb; have n3_ := wH hb; clear HO_6; clear BK251; clear HB; have HO_6 := n0_; have HO257 := n1_; have BK251 := n2_; have HB := n3_; clear n0_ n1_ n2_ n3_; (try clear hb); (try clear hb2); (try clear hk); (try clear hi); (try clear ho0); obtain ⟨hcz38_0, hcz38_1, hcz38_2, hfz38_0, hfz38_1, hfz38_2⟩ := e3_ BK251; obtain ⟨Ao39, co39, eo39⟩ := Kd.R_slice HO257.out; subst eo39))
                go_ret2
                exact ⟨_, eX, by first | exact Kd.R_nil _ _ _ _ _ | exact Kd.N_nil _ _ _ _ _ | exact Kd.V_nil _ _ _ _ _ | exact Kd.Q_nil _ _ _ _ _ | exact Kd.S_nil _ _ _ _ _, qH⟩
               ·rw [if_neg c35] at H
                have c35b0 : decide (40 ≤ (t255.length : Int)) = false := decide_eq_false c35
                have c35b1 : decide (40 ≤ t255.length) = false := decide_eq_false (by omega)
                clear c35
                replace H := Option.bind_eq_some_iff.mp H
                obtain ⟨t258, A400, H⟩ := H
                try dsimp only at H
                have A40 := Aside0.mk A400
                clear A400
                have H' := Aside0.mk H
                clear H
                obtain ⟨hcz41_0, hcz41_1, hcz41_2, hfz41_0, hfz41_1, hfz41_2⟩ := e3_ BK251
                go_wp2_with (first | ((with_reducible refine gate_callee (f := 39) rfl ?_); refine gL (some 56) Tryd.func39 #[.slice Ao18 x6_1.length co18, .string ((rd_T45 l1 x7_1).f1)] ?_; (with_reducible refine (armadaref05_without.calls kj24 _ _ x6_1 ((rd_T45 l1 x7_1).f1) t255 _ ?side1 ?side2 A30.out).mono ?_); (case side1 => exact qK (Kd.R_reads' HO_6.out).2.2); (case side2 => exact (Kd.R_reads' HO_6.out).2.1); rintro e w42 ⟨v256, rfl, ho0, hb⟩; refine ⟨_, rfl, ?_⟩; have n0_ := Aside0.mk (Kd.R_elder' (qR HO_6.out) (Kd.R_base ho0) hb); have n1_ := Aside0.mk (Kd.R_lower (Kd.R_new' ho0 (Kd.R_lt (qR HO_6.out))) (below_size qH)); have n2_ := wB BK251 hb; have n3_ := wH hb; clear HO_6; clear BK251; clear HB; have HO_6 := n0_; have HO257 := n1_; have BK251 := n2_; have HB := n3_; clear n0_ n1_ n2_ n3_; (try clear hb); (try clear hb2); (try clear hk); (try clear hi); (try clear ho0); obtain ⟨hcz43_0, hcz43_1, hcz43_2, hfz43_0, hfz43_1, hfz43_2⟩ := e3_ BK251; obtain ⟨Ao44, co44, eo44⟩ := Kd.R_slice HO257.out; subst eo44) | ((with_reducible refine gate_callee (f := 40) rfl ?_); refine gL (some 69) Tryd.func40 #[.slice Ao44 t255.length co44, .agg #[.string ((rd_T45 l1 x7_1).f1), .string ((rd_T45 l1 x7_1).f2)]] ?_; (with_reducible refine (armadaref05_with.calls kj24 _ _ t255 ((rd_T45 l1 x7_1).f1) ((rd_T45 l1 x7_1).f2) t258 _ ?side1 ?side2 A40.out).mono ?_); (case side1 => exact qK (Kd.R_reads' HO257.out).2.2); (case side2 => exact (Kd.R_reads' HO257.out).2.1); rintro e w45 ⟨v259, rfl, ho0, hb⟩; refine ⟨_, rfl, ?_⟩; have n0_ := Aside0.mk (Kd.R_elder' (qR HO_6.out) (Kd.R_base ho0) hb); have n1_ := Aside0.mk (Kd.R_elder' (qR HO257.out) (Kd.R_base ho0) hb); have n2_ := Aside0.mk (Kd.R_lower (Kd.R_new' (Kd.R_new' ho0 (Kd.R_lt (qR HO_6.out))) (Kd.R_lt (qR HO257.out))) (below_size qH)); have n3_ := wB BK251 hb; have n4_ := wH hb; clear HO_6; clear HO257; clear BK251; clear HB; have HO_6 := n0_; have HO260 := n2_; have BK251 := n3_; have HB := n4_; clear n0_ n1_ n2_ n3_ n4_; (try clear hb); (try clear hb2); (try clear hk); (try clear hi); (try clear ho0)))
                go_roundg kj24
                case measure => have := HK1.out; have := HJ14.out; have := HJ24.out; omega
                case rel => exact ⟨(t258), (wrap64 (x7_1 + 1)), eY, H', ⟨by have := HK1.out; have := HJ14.out; have := HJ24.out; omega⟩, ⟨by (with_reducible repeat (first | apply Kd.R_alloc | apply Kd.R_drewN | apply Kd.R_drew)); exact Kd.R_mono HO260.out (fun _ hk => trivial)⟩, ⟨qH⟩⟩
       ·replace c14 := Bool.eq_false_iff.mpr c14
        subst c14
        rw [if_neg nF_] at H
        simp only [Option.some.injEq, Prod.mk.injEq] at H
        obtain ⟨rfl, rfl⟩ := H
        have p250 : 0 ≤ (x7_1 : Int) := of_decide_eq_true aS
        have q250 : x7_1 < (l1.length : Int) := of_decide_eq_true aS
        obtain ⟨ad250, e250, hx250_0, hx250_1, hx250_2⟩ := at_T45 HR1.out x7_1 p250 q250
        cases e250
        replace hx250_0 := (HB.out.cell (World.block_lt_of_cell? w _ hx250_0)).trans hx250_0
        replace hx250_1 := (HB.out.cell (World.block_lt_of_cell? w _ hx250_1)).trans hx250_1
        replace hx250_2 := (HB.out.cell (World.block_lt_of_cell? w _ hx250_2)).trans hx250_2
        replace p250 := eq_true p250
        replace q250 := eq_true q250
        go_wp2_with (first | ((with_reducible refine gate_dst (N := 8) rfl ?_); (try (refine gate_guard (by rfl) ?_; dsimp only)); refine bE (N := 8) (cs := #[.bool false, .string (⟨#[]⟩ : ByteArray), .string (⟨#[]⟩ : ByteArray)]) (t := 45) ?_; intro gb251 hg w46 hbox hb; have n0_ := Aside0.mk (Kd.R_below (qR HO_6.out) hb); have n1_ := wH hb; have n2_ := Aside0.mk (hbox); have n3_ := Aside0.mk ((qG hg)); have n4_ := Aside0.mk ((qG hg)); clear HO_6; clear HB; have HO_6 := n0_; have HB := n1_; have BK251 := n2_; have GE251 := n4_; clear n0_ n1_ n2_ n3_ n4_; clear hb hbox hg; obtain ⟨hcz47_0, hcz47_1, hcz47_2, hfz47_0, hfz47_1, hfz47_2⟩ := e3_ BK251; obtain ⟨Ao48, co48, eo48⟩ := Kd.R_slice HO_6.out; subst eo48) | ((with_reducible refine gate_callee (f := 13) rfl ?_); refine gL (some 31) Tryd.func13 #[.slice Ao48 x6_1.length co48, .string ((rd_T45 l1 x7_1).f1)] ?_; (with_reducible refine (armadaref05_Get.calls k1 _ _ x6_1 ((rd_T45 l1 x7_1).f1) t252 t253 _ ?side1 ?side2 A12.out).mono ?_); (case side1 => refine (Kd.R_reads' (e := 49) (base := w.heap.size) (ok := fun k_ => True) (n := x6_1.length) (c := co48) ?_).2.2; exact (qR (rF3 HO_6.out BK251))); (case side2 => exact (Kd.R_reads' HO_6.out).2.1); rintro e w' ⟨rfl, ⟨nd, rfl⟩⟩; refine ⟨_, rfl, ?_⟩) | (go_at_call 13; (with_reducible refine (armadaref05_Get.calls k1 _ _ x6_1 ((rd_T45 l1 x7_1).f1) t252 t253 _ ?side1 ?side2 A12.out).mono ?_); (case side1 => refine (Kd.R_reads' (e := 49) (base := w.heap.size) (ok := fun k_ => True) (n := x6_1.length) (c := co48) ?_).2.2; exact (qR (rF3 HO_6.out BK251))); (case side2 => exact (Kd.R_reads' HO_6.out).2.1); rintro e w' ⟨rfl, ⟨nd, rfl⟩⟩) | ((with_reducible refine gate_callee (f := 15) rfl ?_); refine gL (some 36) Tryd.func15 #[.string ((rd_T45 l1 x7_1).f1)] ?_; (with_reducible refine (armadaref05_Path.calls k1 ((rd_T45 l1 x7_1).f1) false _ A13.out).mono ?_); rintro e w49 ⟨rfl, hb⟩; refine ⟨_, rfl, ?_⟩; have n0_ := Aside0.mk (Kd.R_below (qR (rF3 HO_6.out BK251)) hb); have n1_ := wP3 BK251 hb; have n2_ := wH hb; clear HO_6; clear BK251; clear HB; have HO_6 := n0_; have BK251 := n1_; have HB := n2_; clear n0_ n1_ n2_; (try clear hb); (try clear hb2); (try clear hk); (try clear hi)))
        go_ret2
        exact ⟨_, eX, by first | exact Kd.R_nil _ _ _ _ _ | exact Kd.N_nil _ _ _ _ _ | exact Kd.V_nil _ _ _ _ _ | exact Kd.Q_nil _ _ _ _ _ | exact Kd.S_nil _ _ _ _ _, qH⟩
      ·rw [if_neg c11] at H
       exact absurd H (by simp)
     ·rw [if_neg c10] at H
      have c10b0 : decide (x7_1 < (l1.length : Int)) = false := decide_eq_false c10
      clear c10
      simp only [Option.some.injEq, Prod.mk.injEq] at H
      obtain ⟨rfl, rfl⟩ := H
      go_wp2
      go_ret2
      exact ⟨_, eX, qR HO_6.out, qH⟩
  ·rw [if_neg c5] at H
   exact absurd H (by simp)
 ·replace c4 := Bool.eq_false_iff.mpr c4
  subst c4
  rw [if_neg nF_] at H
  simp only [Option.some.injEq, Prod.mk.injEq] at H
  obtain ⟨rfl, rfl⟩ := H
  go_enter Tryd.func22, Tryd.ntmps22
  go_wp2_with (first | ((with_reducible refine gate_callee (f := 17) rfl ?_); refine gL (some 12) Tryd.func17 #[.slice A0 l0.length c0] ?_; (with_reducible refine (armadaref05_May.calls k _ _ l0 false _ ?side1 ?side2 A3.out).mono ?_); (case side1 => repeat (first | exact HR0.out | (with_reducible refine Kd.C_alloc ?_ _) | (with_reducible refine Kd.C_drewN ?_ _) | (with_reducible refine Kd.C_drew ?_))); (case side2 => exact HC0.out); rintro e w50 ⟨rfl, hb⟩; refine ⟨_, rfl, ?_⟩; have n0_ := wH hb; clear HB; have HB := n0_; clear n0_; (try clear hb); (try clear hb2); (try clear hk); (try clear hi)))
  go_ret2
  exact ⟨_, eX, by first | exact Kd.R_nil _ _ _ _ _ | exact Kd.N_nil _ _ _ _ _ | exact Kd.V_nil _ _ _ _ _ | exact Kd.Q_nil _ _ _ _ _ | exact Kd.S_nil _ _ _ _ _, qH⟩
end Go.Proofs.YtnhhbmekjoanbaaDoor.P
