/- Printed functions, merged. -/
import Derived.Test.YtnhhbmekjoanbaaDoorZFHM0
import Derived.Test.YtnhhbmekjoanbaaDoorZFHH3
import Derived.Test.YtnhhbmekjoanbaaDoorZFHM2
import Derived.Test.YtnhhbmekjoanbaaDoorZFHAl
namespace Go.Proofs.YtnhhbmekjoanbaaDoor.P
open Go.RowKit Go.Proofs.YtnhhbmekjoanbaaDoorW.PrintWords Go.Proofs.YtnhhbmekjoanbaaDoorW.PrintLast Go.Proofs.YtnhhbmekjoanbaaDoorW.PrintMore
attribute [local go_sem] max2_int min2_int max_two min_two max_three min_three max_four min_four   -- for this text's walks alone
set_option linter.unusedVariables false
set_option linter.unusedSimpArgs false
section
attribute [local go_sem high] gtr_str
mutual
def armadaref05_Diff.j0 : Nat → List (S49) → List (S49) → List (S45) → Bool → Option ((List (S45)))
 | 0, _, _, _, _ => none
 | k + 1, x0, x1, x5, x15 => if x15 = true then (some x5) else (armadaref05_Diff.l0 k x0 x1 x5 0 0)
def armadaref05_Diff.l0 : Nat → List (S49) → List (S49) → List (S45) → Int → Int → Option ((List (S45)))
 | 0, _, _, _, _, _ => none
 | k + 1, x0, x1, x5, x6, x7 => if x6 < (x0.length : Int) then (armadaref05_Diff.j2 k x0 x1 x5 x6 x7 true) else (armadaref05_Diff.j2 k x0 x1 x5 x6 x7 (decide (x7 < (x1.length : Int))))
def armadaref05_Diff.j2 : Nat → List (S49) → List (S49) → List (S45) → Int → Int → Bool → Option ((List (S45)))
 | 0, _, _, _, _, _, _ => none
 | k + 1, x0, x1, x5, x6, x7, x26 => if x26 = true then (if x7 = (x1.length : Int) then (armadaref05_Diff.j3 k x0 x1 x5 x6 x7 true) else (if x6 < (x0.length : Int) then (if 0 ≤ x6 then (if 0 ≤ x7 then (if x7 < (x1.length : Int) then (armadaref05_Diff.j3 k x0 x1 x5 x6 x7 (Op.bytesLess (((rd_T49 x0 x6).f0).toList) (((rd_T49 x1 x7).f0).toList))) else (none)) else (none)) else (none)) else (armadaref05_Diff.j3 k x0 x1 x5 x6 x7 false))) else (some x5)
def armadaref05_Diff.j3 : Nat → List (S49) → List (S49) → List (S45) → Int → Int → Bool → Option ((List (S45)))
 | 0, _, _, _, _, _, _ => none
 | k + 1, x0, x1, x5, x6, x7, x49 => if x49 = true then (if 0 ≤ x6 then (if x6 < (x0.length : Int) then (if x5.length < 3518437208883 then (armadaref05_Diff.l0 k x0 x1 (x5 ++ [(⟨true, (rd_T49 x0 x6).f0, (⟨#[]⟩ : ByteArray)⟩ : S45)]) (wrap64 (x6 + 1)) x7) else (none)) else (none)) else (none)) else (if x6 = (x0.length : Int) then (armadaref05_Diff.j4 k x0 x1 x5 x6 x7 true) else (if 0 ≤ x6 then (if x6 < (x0.length : Int) then (if 0 ≤ x7 then (if x7 < (x1.length : Int) then (armadaref05_Diff.j4 k x0 x1 x5 x6 x7 (Op.bytesLess (((rd_T49 x1 x7).f0).toList) (((rd_T49 x0 x6).f0).toList))) else (none)) else (none)) else (none)) else (none)))
def armadaref05_Diff.j4 : Nat → List (S49) → List (S49) → List (S45) → Int → Int → Bool → Option ((List (S45)))
 | 0, _, _, _, _, _, _ => none
 | k + 1, x0, x1, x5, x6, x7, x77 => if x77 = true then (if 0 ≤ x7 then (if x7 < (x1.length : Int) then (if x5.length < 3518437208883 then (armadaref05_Diff.l0 k x0 x1 (x5 ++ [(⟨false, (rd_T49 x1 x7).f0, (rd_T49 x1 x7).f1⟩ : S45)]) x6 (wrap64 (x7 + 1))) else (none)) else (none)) else (none)) else (if 0 ≤ x6 then (if x6 < (x0.length : Int) then (if 0 ≤ x7 then (if x7 < (x1.length : Int) then (if ((rd_T49 x0 x6).f1).toList = ((rd_T49 x1 x7).f1).toList then (armadaref05_Diff.l0 k x0 x1 x5 (wrap64 (x6 + 1)) (wrap64 (x7 + 1))) else (if x5.length < 3518437208883 then (armadaref05_Diff.l0 k x0 x1 (x5 ++ [(⟨false, (rd_T49 x1 x7).f0, (rd_T49 x1 x7).f1⟩ : S45)]) (wrap64 (x6 + 1)) (wrap64 (x7 + 1))) else (none))) else (none)) else (none)) else (none)) else (none))
end
def armadaref05_Diff.f (k : Nat) (l0 : List (S49)) (l1 : List (S49)) : Option ((List (S45))) := (armadaref05_May.f k l0).bind fun t263 => (if t263 = true then ((armadaref05_May.f k l1).bind fun t264 => (armadaref05_Diff.j0 k l0 l1 ([] : List (S45)) (!t264))) else (armadaref05_Diff.j0 k l0 l1 ([] : List (S45)) true))
theorem armadaref05_Diff.mono_l : ∀ k, (∀ y0 y1 y2 y3, LeO (armadaref05_Diff.j0 k y0 y1 y2 y3) (armadaref05_Diff.j0 (k + 1) y0 y1 y2 y3)) ∧ (∀ y0 y1 y2 y3 y4, LeO (armadaref05_Diff.l0 k y0 y1 y2 y3 y4) (armadaref05_Diff.l0 (k + 1) y0 y1 y2 y3 y4)) ∧ (∀ y0 y1 y2 y3 y4 y5, LeO (armadaref05_Diff.j2 k y0 y1 y2 y3 y4 y5) (armadaref05_Diff.j2 (k + 1) y0 y1 y2 y3 y4 y5)) ∧ (∀ y0 y1 y2 y3 y4 y5, LeO (armadaref05_Diff.j3 k y0 y1 y2 y3 y4 y5) (armadaref05_Diff.j3 (k + 1) y0 y1 y2 y3 y4 y5)) ∧ (∀ y0 y1 y2 y3 y4 y5, LeO (armadaref05_Diff.j4 k y0 y1 y2 y3 y4 y5) (armadaref05_Diff.j4 (k + 1) y0 y1 y2 y3 y4 y5))
 | 0 => ⟨fun _ _ _ _ r h => by simp [armadaref05_Diff.j0] at h, fun _ _ _ _ _ r h => by simp [armadaref05_Diff.l0] at h, fun _ _ _ _ _ _ r h => by simp [armadaref05_Diff.j2] at h, fun _ _ _ _ _ _ r h => by simp [armadaref05_Diff.j3] at h, fun _ _ _ _ _ _ r h => by simp [armadaref05_Diff.j4] at h⟩
 | k + 1 => by
  obtain ⟨ih0, ih1, ih2, ih3, ih4⟩ := armadaref05_Diff.mono_l k
  refine ⟨?_, ?_, ?_, ?_, ?_⟩
  ·intro y0 y1 y2 y3
   unfold armadaref05_Diff.j0
   repeat' first
   | (with_reducible exact ih0 _ _ _ _)
   | (with_reducible exact ih1 _ _ _ _ _)
   | (with_reducible exact ih2 _ _ _ _ _ _)
   | (with_reducible exact ih3 _ _ _ _ _ _)
   | (with_reducible exact ih4 _ _ _ _ _ _)
   | (with_reducible exact armadaref05_May.mono _ _)
   | (with_reducible exact LeO.refl _)
   | (with_reducible exact LeO.none _)
   | (with_reducible refine LeO.ite ?_ ?_)
   | (with_reducible refine LeO.bind ?_ (fun _ => ?_))
   | exact ih0 _ _ _ _
   | exact ih1 _ _ _ _ _
   | exact ih2 _ _ _ _ _ _
   | exact ih3 _ _ _ _ _ _
   | exact ih4 _ _ _ _ _ _
   | exact armadaref05_May.mono _ _
   | exact LeO.none _
   | refine LeO.ite ?_ ?_
   | refine LeO.bind ?_ (fun _ => ?_)
  ·intro y0 y1 y2 y3 y4
   unfold armadaref05_Diff.l0
   repeat' first
   | (with_reducible exact ih0 _ _ _ _)
   | (with_reducible exact ih1 _ _ _ _ _)
   | (with_reducible exact ih2 _ _ _ _ _ _)
   | (with_reducible exact ih3 _ _ _ _ _ _)
   | (with_reducible exact ih4 _ _ _ _ _ _)
   | (with_reducible exact armadaref05_May.mono _ _)
   | (with_reducible exact LeO.refl _)
   | (with_reducible exact LeO.none _)
   | (with_reducible refine LeO.ite ?_ ?_)
   | (with_reducible refine LeO.bind ?_ (fun _ => ?_))
   | exact ih0 _ _ _ _
   | exact ih1 _ _ _ _ _
   | exact ih2 _ _ _ _ _ _
   | exact ih3 _ _ _ _ _ _
   | exact ih4 _ _ _ _ _ _
   | exact armadaref05_May.mono _ _
   | exact LeO.none _
   | refine LeO.ite ?_ ?_
   | refine LeO.bind ?_ (fun _ => ?_)
  ·intro y0 y1 y2 y3 y4 y5
   unfold armadaref05_Diff.j2
   repeat' first
   | (with_reducible exact ih0 _ _ _ _)
   | (with_reducible exact ih1 _ _ _ _ _)
   | (with_reducible exact ih2 _ _ _ _ _ _)
   | (with_reducible exact ih3 _ _ _ _ _ _)
   | (with_reducible exact ih4 _ _ _ _ _ _)
   | (with_reducible exact armadaref05_May.mono _ _)
   | (with_reducible exact LeO.refl _)
   | (with_reducible exact LeO.none _)
   | (with_reducible refine LeO.ite ?_ ?_)
   | (with_reducible refine LeO.bind ?_ (fun _ => ?_))
   | exact ih0 _ _ _ _
   | exact ih1 _ _ _ _ _
   | exact ih2 _ _ _ _ _ _
   | exact ih3 _ _ _ _ _ _
   | exact ih4 _ _ _ _ _ _
   | exact armadaref05_May.mono _ _
   | exact LeO.none _
   | refine LeO.ite ?_ ?_
   | refine LeO.bind ?_ (fun _ => ?_)
  ·intro y0 y1 y2 y3 y4 y5
   unfold armadaref05_Diff.j3
   repeat' first
   | (with_reducible exact ih0 _ _ _ _)
   | (with_reducible exact ih1 _ _ _ _ _)
   | (with_reducible exact ih2 _ _ _ _ _ _)
   | (with_reducible exact ih3 _ _ _ _ _ _)
   | (with_reducible exact ih4 _ _ _ _ _ _)
   | (with_reducible exact armadaref05_May.mono _ _)
   | (with_reducible exact LeO.refl _)
   | (with_reducible exact LeO.none _)
   | (with_reducible refine LeO.ite ?_ ?_)
   | (with_reducible refine LeO.bind ?_ (fun _ => ?_))
   | exact ih0 _ _ _ _
   | exact ih1 _ _ _ _ _
   | exact ih2 _ _ _ _ _ _
   | exact ih3 _ _ _ _ _ _
   | exact ih4 _ _ _ _ _ _
   | exact armadaref05_May.mono _ _
   | exact LeO.none _
   | refine LeO.ite ?_ ?_
   | refine LeO.bind ?_ (fun _ => ?_)
  ·intro y0 y1 y2 y3 y4 y5
   unfold armadaref05_Diff.j4
   repeat' first
   | (with_reducible exact ih0 _ _ _ _)
   | (with_reducible exact ih1 _ _ _ _ _)
   | (with_reducible exact ih2 _ _ _ _ _ _)
   | (with_reducible exact ih3 _ _ _ _ _ _)
   | (with_reducible exact ih4 _ _ _ _ _ _)
   | (with_reducible exact armadaref05_May.mono _ _)
   | (with_reducible exact LeO.refl _)
   | (with_reducible exact LeO.none _)
   | (with_reducible refine LeO.ite ?_ ?_)
   | (with_reducible refine LeO.bind ?_ (fun _ => ?_))
   | exact ih0 _ _ _ _
   | exact ih1 _ _ _ _ _
   | exact ih2 _ _ _ _ _ _
   | exact ih3 _ _ _ _ _ _
   | exact ih4 _ _ _ _ _ _
   | exact armadaref05_May.mono _ _
   | exact LeO.none _
   | refine LeO.ite ?_ ?_
   | refine LeO.bind ?_ (fun _ => ?_)
theorem armadaref05_Diff.mono : ∀ a0 a1 k, LeO (armadaref05_Diff.f k a0 a1) (armadaref05_Diff.f (k + 1) a0 a1) := by
 intro a0 a1 k
 obtain ⟨ih0, ih1, ih2, ih3, ih4⟩ := armadaref05_Diff.mono_l k
 unfold armadaref05_Diff.f
 repeat' first
   | (with_reducible exact ih0 _ _ _ _)
   | (with_reducible exact ih1 _ _ _ _ _)
   | (with_reducible exact ih2 _ _ _ _ _ _)
   | (with_reducible exact ih3 _ _ _ _ _ _)
   | (with_reducible exact ih4 _ _ _ _ _ _)
   | (with_reducible exact armadaref05_May.mono _ _)
   | (with_reducible exact LeO.refl _)
   | (with_reducible exact LeO.none _)
   | (with_reducible refine LeO.ite ?_ ?_)
   | (with_reducible refine LeO.bind ?_ (fun _ => ?_))
   | exact ih0 _ _ _ _
   | exact ih1 _ _ _ _ _
   | exact ih2 _ _ _ _ _ _
   | exact ih3 _ _ _ _ _ _
   | exact ih4 _ _ _ _ _ _
   | exact armadaref05_May.mono _ _
   | exact LeO.none _
   | refine LeO.ite ?_ ?_
   | refine LeO.bind ?_ (fun _ => ?_)
def armadaref05_Diff.T7 : Bool × List (List Nat × List Nat) := (true, [([], []), ([], []), ([1], [1]), ([0, 2], [0, 2]), ([3], [3]), ([4], [4]), ([4], [4]), ([6, 4], [4, 6]), ([5, 7, 4], [4, 5, 7]), ([8, 4, 4], [4, 8]), ([9], [9]), ([9], [9]), ([10, 11, 9], [9, 10, 11]), ([12, 9], [9, 12]), ([13, 9], [9, 13]), ([9], [9]), ([9], [9]), ([15, 16, 9], [9, 15, 16]), ([17, 9], [9, 17]), ([18, 9], [9, 18]), ([14, 19, 9], [9, 14, 19]), ([9, 20, 4], [4, 9, 20]), ([4, 21], [4, 21])])
def armadaref05_Diff.B7 : List Nat := [0, 0, 2, 7, 15, 31, 31, 95, 255, 511, 1023, 1023, 4095, 8191, 16383, 1023, 1023, 99327, 230399, 492543, 1048575, 2097151, 4194303]
theorem armadaref05_Diff.tab7 : rtab .any (opsOf Tryd.f25 7) = armadaref05_Diff.T7 := by kernel_rfl
theorem armadaref05_Diff.bits7 : waitsOk armadaref05_Diff.T7.2 armadaref05_Diff.B7 = true := by kernel_rfl
def armadaref05_Diff.T10 : Bool × List (List Nat × List Nat) := (true, [([], []), ([], []), ([1], [1]), ([0, 2], [0, 2]), ([3], [3]), ([4], [4]), ([4], [4]), ([5, 6, 4], [4, 5, 6]), ([7, 4], [4, 7]), ([8, 4], [4, 8]), ([4], [4]), ([4], [4]), ([10, 11, 4], [4, 10, 11]), ([12, 4], [4, 12]), ([13, 4], [4, 13]), ([9, 14, 4], [4, 9, 14]), ([4, 15], [4, 15])])
def armadaref05_Diff.B10 : List Nat := [0, 0, 2, 7, 15, 31, 31, 127, 255, 511, 31, 31, 3103, 7199, 15391, 32767, 65535]
theorem armadaref05_Diff.tab10 : rtab .any (opsOf Tryd.f25 10) = armadaref05_Diff.T10 := by kernel_rfl
theorem armadaref05_Diff.bits10 : waitsOk armadaref05_Diff.T10.2 armadaref05_Diff.B10 = true := by kernel_rfl
def armadaref05_Diff.T11 : Bool × List (List Nat × List Nat) := (true, [([], []), ([], []), ([], []), ([1, 2], [1, 2]), ([3], [3]), ([4], [4]), ([], []), ([], []), ([6, 7], [6, 7]), ([8], [8]), ([9], [9]), ([5, 10], [5, 10]), ([11], [11]), ([0, 12], [0, 12]), ([13, 13, 0, 1, 2, 3, 4, 5, 6, 7, 8, 9, 10, 11, 12, 13], [0, 13])])
def armadaref05_Diff.B11 : List Nat := [0, 0, 0, 6, 14, 30, 0, 0, 192, 448, 960, 2046, 4094, 8191, 16383]
theorem armadaref05_Diff.tab11 : rtab .any (opsOf Tryd.f25 11) = armadaref05_Diff.T11 := by kernel_rfl
theorem armadaref05_Diff.bits11 : waitsOk armadaref05_Diff.T11.2 armadaref05_Diff.B11 = true := by kernel_rfl
def armadaref05_Diff.T13 : Bool × List (List Nat × List Nat) := (true, [([], []), ([], []), ([0, 1], [0, 1]), ([2], [2]), ([3], [3]), ([], []), ([], []), ([5, 6], [5, 6]), ([7], [7]), ([8], [8]), ([4, 9], [4, 9])])
def armadaref05_Diff.B13 : List Nat := [0, 0, 3, 7, 15, 0, 0, 96, 224, 480, 1023]
theorem armadaref05_Diff.tab13 : rtab .any (opsOf Tryd.f25 13) = armadaref05_Diff.T13 := by kernel_rfl
theorem armadaref05_Diff.bits13 : waitsOk armadaref05_Diff.T13.2 armadaref05_Diff.B13 = true := by kernel_rfl
def armadaref05_Diff.T14 : Bool × List (List Nat × List Nat) := (true, [([], []), ([], []), ([], []), ([1, 2], [1, 2]), ([3], [3]), ([4], [4]), ([], []), ([], []), ([6, 7], [6, 7]), ([8], [8]), ([9], [9]), ([5, 10], [5, 10]), ([11], [11]), ([0, 12], [0, 12]), ([13, 13, 0, 1, 2, 3, 4, 5, 6, 7, 8, 9, 10, 11, 12, 13], [0, 13])])
def armadaref05_Diff.B14 : List Nat := [0, 0, 0, 6, 14, 30, 0, 0, 192, 448, 960, 2046, 4094, 8191, 16383]
theorem armadaref05_Diff.tab14 : rtab .any (opsOf Tryd.f25 14) = armadaref05_Diff.T14 := by kernel_rfl
theorem armadaref05_Diff.bits14 : waitsOk armadaref05_Diff.T14.2 armadaref05_Diff.B14 = true := by kernel_rfl
set_option maxHeartbeats 8000000 in
set_option maxRecDepth 100000 in
theorem armadaref05_Diff.calls (k : Nat) (A0 : Option Addr) (c0 : Nat) (l0 : List (S49)) (A1 : Option Addr) (c1 : Nat) (l1 : List (S49)) (r : List (S45)) (w : World) (hr0 : Kd.C k49 w A0 l0.length l0) (hc0 : l0.length ≤ c0) (hr1 : Kd.C k49 w A1 l1.length l1) (hc1 : l1.length ≤ c1) (h : armadaref05_Diff.f k l0 l1 = some r) :
  Calls Tryd.prog 25 #[.slice A0 l0.length c0, .slice A1 l1.length c1] w fun e w' => ∃ v0_ : Value, e = .returned (v0_) ∧ Kd.R k45 45 w' w.heap.size (fun _ => True) v0_ r ∧ Below w.heap.size w w' := by
 have hu45 := Tryd.underlying45
 have HR0 := Aside0.mk hr0
 have HC0 := Aside0.mk hc0
 clear hr0 hc0
 have HR1 := Aside0.mk hr1
 have HC1 := Aside0.mk hc1
 clear hr1 hc1
 have HB := Aside0.mk (Below.refl w.heap.size w)
 have H := h
 unfold armadaref05_Diff.f at H
 clear h
 have HC3 := Aside0.mk H
 clear H
 go_enter Tryd.func25, Tryd.ntmps25
 go_upto_region 2 with (fail)
 go_cut [15] (fun v15 wc => ∃ (kq : Nat) (x15_2 : Bool), v15 = .bool x15_2 ∧ Aside0 (armadaref05_Diff.j0 kq l0 l1 ([] : List (S45)) x15_2 = some r) ∧ Aside0 (kq ≤ k) ∧ Aside0 (Kd.R k45 45 wc w.heap.size (fun _ => True) (.slice none 0 0) ([] : List (S45))) ∧ Aside0 (Below w.heap.size w wc))
 case first =>
  have H := HC3.out
  clear HC3
  replace H := Option.bind_eq_some_iff.mp H
  obtain ⟨t263, A40, H⟩ := H
  try dsimp only at H
  have A4 := Aside0.mk A40
  clear A40
  by_cases c5 : t263 = true
  ·subst c5
   rw [if_pos rfl] at H
   replace H := Option.bind_eq_some_iff.mp H
   obtain ⟨t264, A60, H⟩ := H
   try dsimp only at H
   have A6 := Aside0.mk A60
   clear A60
   have H' := Aside0.mk H
   clear H
   go_wp2_with (first | ((with_reducible refine gate_callee (f := 17) rfl ?_); refine gL (some 9) Tryd.func17 #[.slice A0 l0.length c0] ?_; (with_reducible refine (armadaref05_May.calls k _ _ l0 true _ ?side1 ?side2 A4.out).mono ?_); (case side1 => exact qC HR0); (case side2 => exact HC0.out); rintro e w7 ⟨rfl, hb⟩; refine ⟨_, rfl, ?_⟩; have n0_ := wH hb; clear HB; have HB := n0_; clear n0_; (try clear hb); (try clear hb2); (try clear hk); (try clear hi)) | (go_at_call 17; (with_reducible refine (armadaref05_May.calls k _ _ l1 t264 _ ?side1 ?side2 A6.out).mono ?_); (case side1 => exact qC HR1); (case side2 => exact HC1.out); rintro e w8 ⟨rfl, hb⟩; have n0_ := wH hb; clear HB; have HB := n0_; clear n0_; (try clear hb); (try clear hb2); (try clear hk); (try clear hi)))
   go_meet
   case rel => exact ⟨_, (!t264), eY, H', ⟨by first | omega | exact Nat.le_refl _⟩, ⟨by first | exact Kd.R_nil _ _ _ _ _ | exact Kd.N_nil _ _ _ _ _ | exact Kd.V_nil _ _ _ _ _ | exact Kd.Q_nil _ _ _ _ _ | exact Kd.S_nil _ _ _ _ _⟩, ⟨qH⟩⟩
  ·replace c5 := Bool.eq_false_iff.mpr c5
   subst c5
   rw [if_neg nF_] at H
   have H' := Aside0.mk H
   clear H
   go_wp2_with (first | ((with_reducible refine gate_callee (f := 17) rfl ?_); refine gL (some 9) Tryd.func17 #[.slice A0 l0.length c0] ?_; (with_reducible refine (armadaref05_May.calls k _ _ l0 false _ ?side1 ?side2 A4.out).mono ?_); (case side1 => exact qC HR0); (case side2 => exact HC0.out); rintro e w9 ⟨rfl, hb⟩; refine ⟨_, rfl, ?_⟩; have n0_ := wH hb; clear HB; have HB := n0_; clear n0_; (try clear hb); (try clear hb2); (try clear hk); (try clear hi)))
   go_meet
   case rel => exact ⟨_, (true), eY, H', ⟨by first | omega | exact Nat.le_refl _⟩, ⟨by first | exact Kd.R_nil _ _ _ _ _ | exact Kd.N_nil _ _ _ _ _ | exact Kd.V_nil _ _ _ _ _ | exact Kd.Q_nil _ _ _ _ _ | exact Kd.S_nil _ _ _ _ _⟩, ⟨qH⟩⟩
 case rest =>
  clear HC3
  (try clear p2)
  obtain ⟨kq, x15_2, rfl, HA, HJ2, HO_5, HB⟩ := hcut
  cases kq with
  | zero => exact absurd HA.out (by simp [armadaref05_Diff.j0])
  | succ kj2 =>
   have H := HA.out
   clear HA
   simp only [armadaref05_Diff.j0] at H
   by_cases c10 : x15_2 = true
   ·subst c10
    rw [if_pos rfl] at H
    obtain rfl := Option.some.inj H
    go_wp2
    go_ret
    exact ⟨_, eX, qR HO_5.out, qH⟩
   ·replace c10 := Bool.eq_false_iff.mpr c10
    subst c10
    rw [if_neg nF_] at H
    have H' := Aside0.mk H
    clear H
    go_wp2
    go_loopg [5, 6, 7] kj2 (fun kq v5 v6 v7 w' => ∃ (x5_2 : List (S45)) (x6_2 : Int) (x7_2 : Int), v6 = .int .i64 x6_2 ∧ v7 = .int .i64 x7_2 ∧ Aside0 (armadaref05_Diff.l0 kq l0 l1 x5_2 x6_2 x7_2 = some r) ∧ Aside0 (kq ≤ kj2) ∧ Aside0 (Kd.R k45 45 w' w.heap.size (fun _ => True) v5 x5_2) ∧ Aside0 (Below w.heap.size w w'))
    case atStart => exact ⟨(([] : List (S45))), (0), (0), eY, eY, H', ⟨Nat.le_refl _⟩, ⟨qR HO_5.out⟩, ⟨qH⟩⟩
    case round =>
     clear H'
     (try clear p2); (try clear c10); (try clear p2)
     obtain ⟨x5_2, x6_2, x7_2, rfl, rfl, HA, HK2, HO_5, HB⟩ := hrel
     cases gk with
     | zero => exact absurd HA.out (by simp [armadaref05_Diff.l0])
     | succ k2 =>
      have H := HA.out
      clear HA
      simp only [armadaref05_Diff.l0] at H
      have HC11 := Aside0.mk H
      clear H
      go_upto_region 6 with (fail)
      go_cut [26] (fun v26 wc => ∃ (kq : Nat) (x26_10 : Bool), v26 = .bool x26_10 ∧ Aside0 (armadaref05_Diff.j2 kq l0 l1 x5_2 x6_2 x7_2 x26_10 = some r) ∧ Aside0 (kq ≤ k2) ∧ Aside0 (Kd.R k45 45 wc w.heap.size (fun _ => True) u5 x5_2) ∧ Aside0 (Below w.heap.size w wc))
      case first =>
       have H := HC11.out
       clear HC11
       by_cases c12 : x6_2 < (l0.length : Int)
       ·rw [if_pos c12] at H
        have c12b0 : decide (x6_2 < (l0.length : Int)) = true := decide_eq_true c12
        clear c12
        (first | rw [c12b0] | (simp only [i64_w, i32_w]; rw [c12b0]) | skip)
        have H' := Aside0.mk H
        clear H
        go_wp2
        go_meet
        case rel => exact ⟨_, (true), eY, H', ⟨by have := HJ2.out; have := HK2.out; first | omega | exact Nat.le_refl _⟩, ⟨qR HO_5.out⟩, ⟨qH⟩⟩
       ·rw [if_neg c12] at H
        have c12b0 : decide (x6_2 < (l0.length : Int)) = false := decide_eq_false c12
        clear c12
        (first | rw [c12b0] | (simp only [i64_w, i32_w]; rw [c12b0]) | skip)
        have H' := Aside0.mk H
        clear H
        go_wp2
        go_meet
        case rel => exact ⟨_, (decide (x7_2 < (l1.length : Int))), eY, H', ⟨by have := HJ2.out; have := HK2.out; first | omega | exact Nat.le_refl _⟩, ⟨qR HO_5.out⟩, ⟨qH⟩⟩
      case rest =>
       clear HC11
       (try clear p2); (try clear p2)
       obtain ⟨kq, x26_10, rfl, HA, HJ10, HO_5, HB⟩ := hcut
       cases kq with
       | zero => exact absurd HA.out (by simp [armadaref05_Diff.j2])
       | succ kj10 =>
        have H := HA.out
        clear HA
        simp only [armadaref05_Diff.j2] at H
        by_cases c13 : x26_10 = true
        ·subst c13
         rw [if_pos rfl] at H
         have HC14 := Aside0.mk H
         clear H
         go_upto_region 7 with (fail)
         go_cut [49] (fun v49 wc => ∃ (kq : Nat) (x49_13 : Bool), v49 = .bool x49_13 ∧ Aside0 (armadaref05_Diff.j3 kq l0 l1 x5_2 x6_2 x7_2 x49_13 = some r) ∧ Aside0 (kq ≤ kj10) ∧ Aside0 (Kd.R k45 45 wc w.heap.size (fun _ => True) u5 x5_2) ∧ Aside0 (Below w.heap.size w wc))
         case first =>
          have H := HC14.out
          clear HC14
          by_cases c15 : x7_2 = (l1.length : Int)
          ·rw [if_pos c15] at H
           have c15b0 : (x7_2 == (l1.length : Int)) = true := beq_iff_eq.mpr c15
           have c15b1 : (x7_2 != (l1.length : Int)) = false := bne_eq_false_iff_eq.mpr c15
           clear c15
           (first | rw [c15b0] | (simp only [i64_w, i32_w]; rw [c15b0]) | skip)
           have H' := Aside0.mk H
           clear H
           try go_wp2
           have n0_ := Aside0.mk (Kd.R_drew HO_5.out)
           have n1_ := Aside0.mk (yD_ HB.out)
           clear HO_5
           clear HB
           have HO_5 := n0_
           have HB := n1_
           clear n0_ n1_
           refine start_ (n := 23) (S := fun w' => True) (ds := []) #[F_,F_,F_,F_,F_,F_,F_,F_,F_,F_,F_,F_,F_,F_,F_,F_,F_,F_,F_,F_,F_,F_,F_] (by kernel_rfl) rfl rfl trivial (fun hHeld => ?_); refine with_tabW armadaref05_Diff.tab7 armadaref05_Diff.bits7 (fun HT_ HW_ => ?_)
           generalize wc.drew = w16 at HO_5 HB hHeld ⊢
           refine pU 0 (some 27) #[T_,F_,F_,F_,F_,F_,F_,F_,F_,F_,F_,F_,F_,F_,F_,F_,F_,F_,F_,F_,F_,F_,F_] HT_ ?_
           refine pU 1 (some 28) #[T_,T_,F_,F_,F_,F_,F_,F_,F_,F_,F_,F_,F_,F_,F_,F_,F_,F_,F_,F_,F_,F_,F_] HT_ ?_
           refine pU 2 (some 29) #[T_,T_,T_,F_,F_,F_,F_,F_,F_,F_,F_,F_,F_,F_,F_,F_,F_,F_,F_,F_,F_,F_,F_] HT_ ?_
           refine pU 3 (some 30) #[T_,T_,T_,T_,F_,F_,F_,F_,F_,F_,F_,F_,F_,F_,F_,F_,F_,F_,F_,F_,F_,F_,F_] HT_ ?_
           refine pU 4 (some 31) #[T_,T_,T_,T_,T_,F_,F_,F_,F_,F_,F_,F_,F_,F_,F_,F_,F_,F_,F_,F_,F_,F_,F_] HT_ ?_
           refine pN 5 (some 32) #[T_,T_,T_,T_,T_,T_,F_,F_,F_,F_,F_,F_,F_,F_,F_,F_,F_,F_,F_,F_,F_,F_,F_] HT_ ?_
           refine pN 6 (some 33) #[T_,T_,T_,T_,T_,T_,T_,F_,F_,F_,F_,F_,F_,F_,F_,F_,F_,F_,F_,F_,F_,F_,F_] HT_ ?_
           refine pN 7 (some 34) #[T_,T_,T_,T_,T_,T_,T_,T_,F_,F_,F_,F_,F_,F_,F_,F_,F_,F_,F_,F_,F_,F_,F_] HT_ ?_
           refine pN 8 (some 35) #[T_,T_,T_,T_,T_,T_,T_,T_,T_,F_,F_,F_,F_,F_,F_,F_,F_,F_,F_,F_,F_,F_,F_] HT_ ?_
           refine pN 9 (some 36) #[T_,T_,T_,T_,T_,T_,T_,T_,T_,T_,F_,F_,F_,F_,F_,F_,F_,F_,F_,F_,F_,F_,F_] HT_ ?_
           refine pN 10 (some 37) #[T_,T_,T_,T_,T_,T_,T_,T_,T_,T_,T_,F_,F_,F_,F_,F_,F_,F_,F_,F_,F_,F_,F_] HT_ ?_
           refine pN 11 (some 38) #[T_,T_,T_,T_,T_,T_,T_,T_,T_,T_,T_,T_,F_,F_,F_,F_,F_,F_,F_,F_,F_,F_,F_] HT_ ?_
           refine pN 12 (some 39) #[T_,T_,T_,T_,T_,T_,T_,T_,T_,T_,T_,T_,T_,F_,F_,F_,F_,F_,F_,F_,F_,F_,F_] HT_ ?_
           refine pN 13 (some 40) #[T_,T_,T_,T_,T_,T_,T_,T_,T_,T_,T_,T_,T_,T_,F_,F_,F_,F_,F_,F_,F_,F_,F_] HT_ ?_
           refine pN 14 (some 41) #[T_,T_,T_,T_,T_,T_,T_,T_,T_,T_,T_,T_,T_,T_,T_,F_,F_,F_,F_,F_,F_,F_,F_] HT_ ?_
           refine pN 15 (some 42) #[T_,T_,T_,T_,T_,T_,T_,T_,T_,T_,T_,T_,T_,T_,T_,T_,F_,F_,F_,F_,F_,F_,F_] HT_ ?_
           refine pN 16 (some 43) #[T_,T_,T_,T_,T_,T_,T_,T_,T_,T_,T_,T_,T_,T_,T_,T_,T_,F_,F_,F_,F_,F_,F_] HT_ ?_
           refine pN 17 (some 44) #[T_,T_,T_,T_,T_,T_,T_,T_,T_,T_,T_,T_,T_,T_,T_,T_,T_,T_,F_,F_,F_,F_,F_] HT_ ?_
           refine pN 18 (some 45) #[T_,T_,T_,T_,T_,T_,T_,T_,T_,T_,T_,T_,T_,T_,T_,T_,T_,T_,T_,F_,F_,F_,F_] HT_ ?_
           refine pN 19 (some 46) #[T_,T_,T_,T_,T_,T_,T_,T_,T_,T_,T_,T_,T_,T_,T_,T_,T_,T_,T_,T_,F_,F_,F_] HT_ ?_
           refine pN 20 (some 47) #[T_,T_,T_,T_,T_,T_,T_,T_,T_,T_,T_,T_,T_,T_,T_,T_,T_,T_,T_,T_,T_,F_,F_] HT_ ?_
           refine pN 21 (some 48) #[T_,T_,T_,T_,T_,T_,T_,T_,T_,T_,T_,T_,T_,T_,T_,T_,T_,T_,T_,T_,T_,T_,F_] HT_ ?_
           refine pU 22 (some 49) #[T_,T_,T_,T_,T_,T_,T_,T_,T_,T_,T_,T_,T_,T_,T_,T_,T_,T_,T_,T_,T_,T_,T_] HT_ ?_
           refine done_ (done_of HT_.out (by kernel_rfl)) ?_
           try go_wp2
           go_meet
           case rel => exact ⟨_, (true), eY, H', ⟨by have := HJ2.out; have := HK2.out; have := HJ10.out; first | omega | exact Nat.le_refl _⟩, ⟨qR HO_5.out⟩, ⟨qH⟩⟩
          ·rw [if_neg c15] at H
           have c15b0 : (x7_2 == (l1.length : Int)) = false := beq_eq_false_iff_ne.mpr c15
           have c15b1 : (x7_2 != (l1.length : Int)) = true := bne_iff_ne.mpr c15
           (first | rw [c15b0] | (simp only [i64_w, i32_w]; rw [c15b0]) | skip)
           by_cases c17 : x6_2 < (l0.length : Int)
           ·rw [if_pos c17] at H
            have c17b0 : decide (x6_2 < (l0.length : Int)) = true := decide_eq_true c17
            clear c17
            by_cases c18 : 0 ≤ x6_2
            ·rw [if_pos c18] at H
             have c18b0 : decide (0 ≤ x6_2) = true := decide_eq_true c18
             clear c18
             by_cases c19 : 0 ≤ x7_2
             ·rw [if_pos c19] at H
              have c19b0 : decide (0 ≤ x7_2) = true := decide_eq_true c19
              clear c19
              by_cases c20 : x7_2 < (l1.length : Int)
              ·rw [if_pos c20] at H
               have c20b0 : decide (x7_2 < (l1.length : Int)) = true := decide_eq_true c20
               clear c20
               have H' := Aside0.mk H
               clear H
               try go_wp2
               have n0_ := Aside0.mk (Kd.R_drew HO_5.out)
               have n1_ := Aside0.mk (yD_ HB.out)
               clear HO_5
               clear HB
               have HO_5 := n0_
               have HB := n1_
               clear n0_ n1_
               have p265 : 0 ≤ (x6_2 : Int) := of_decide_eq_true aS
               have q265 : x6_2 < (l0.length : Int) := of_decide_eq_true aS
               obtain ⟨ad265, e265, hx265_0, hx265_1⟩ := at_T49 HR0.out x6_2 p265 q265
               have hw265_1 := hx265_1
               have hw265_0 := hx265_0
               cases e265
               replace hx265_0 := (HB.out.cell (World.block_lt_of_cell? w _ hx265_0)).trans hx265_0
               replace hx265_1 := (HB.out.cell (World.block_lt_of_cell? w _ hx265_1)).trans hx265_1
               replace p265 := eq_true p265
               replace q265 := eq_true q265
               have p266 : 0 ≤ (x7_2 : Int) := of_decide_eq_true aS
               have q266 : x7_2 < (l1.length : Int) := of_decide_eq_true aS
               obtain ⟨ad266, e266, hx266_0, hx266_1⟩ := at_T49 HR1.out x7_2 p266 q266
               have hw266_1 := hx266_1
               have hw266_0 := hx266_0
               cases e266
               replace hx266_0 := (HB.out.cell (World.block_lt_of_cell? w _ hx266_0)).trans hx266_0
               replace hx266_1 := (HB.out.cell (World.block_lt_of_cell? w _ hx266_1)).trans hx266_1
               replace p266 := eq_true p266
               replace q266 := eq_true q266
               refine start_ (n := 23) (S := fun w' => w'.cell? (ad265.add ((x6_2).toNat * 2)) = some (.string ((rd_T49 l0 x6_2).f0)) ∧ w'.cell? ⟨(ad265.add ((x6_2).toNat * 2)).block, (ad265.add ((x6_2).toNat * 2)).off + 1, none⟩ = some (.string ((rd_T49 l0 x6_2).f1)) ∧ w'.cell? (ad266.add ((x7_2).toNat * 2)) = some (.string ((rd_T49 l1 x7_2).f0)) ∧ w'.cell? ⟨(ad266.add ((x7_2).toNat * 2)).block, (ad266.add ((x7_2).toNat * 2)).off + 1, none⟩ = some (.string ((rd_T49 l1 x7_2).f1))) (ds := []) #[F_,F_,F_,F_,F_,F_,F_,F_,F_,F_,F_,F_,F_,F_,F_,F_,F_,F_,F_,F_,F_,F_,F_] (by kernel_rfl) rfl rfl ⟨((HB.out.cell (World.block_lt_of_cell? w _ hw265_0)).trans hw265_0), ((HB.out.cell (World.block_lt_of_cell? w _ hw265_1)).trans hw265_1), ((HB.out.cell (World.block_lt_of_cell? w _ hw266_0)).trans hw266_0), ((HB.out.cell (World.block_lt_of_cell? w _ hw266_1)).trans hw266_1)⟩ (fun hHeld => ?_); refine with_tabW armadaref05_Diff.tab7 armadaref05_Diff.bits7 (fun HT_ HW_ => ?_)
               generalize wc.drew = w21 at HO_5 HB hx265_0 hx265_1 hx266_0 hx266_1 hHeld ⊢
               refine pU 0 (some 27) #[T_,F_,F_,F_,F_,F_,F_,F_,F_,F_,F_,F_,F_,F_,F_,F_,F_,F_,F_,F_,F_,F_,F_] HT_ ?_
               refine pU 1 (some 28) #[T_,T_,F_,F_,F_,F_,F_,F_,F_,F_,F_,F_,F_,F_,F_,F_,F_,F_,F_,F_,F_,F_,F_] HT_ ?_
               refine pU 2 (some 29) #[T_,T_,T_,F_,F_,F_,F_,F_,F_,F_,F_,F_,F_,F_,F_,F_,F_,F_,F_,F_,F_,F_,F_] HT_ ?_
               refine pU 3 (some 30) #[T_,T_,T_,T_,F_,F_,F_,F_,F_,F_,F_,F_,F_,F_,F_,F_,F_,F_,F_,F_,F_,F_,F_] HT_ ?_
               refine pU 4 (some 31) #[T_,T_,T_,T_,T_,F_,F_,F_,F_,F_,F_,F_,F_,F_,F_,F_,F_,F_,F_,F_,F_,F_,F_] HT_ ?_
               refine pU 5 (some 32) #[T_,T_,T_,T_,T_,T_,F_,F_,F_,F_,F_,F_,F_,F_,F_,F_,F_,F_,F_,F_,F_,F_,F_] HT_ ?_
               refine pU 6 (some 33) #[T_,T_,T_,T_,T_,T_,T_,F_,F_,F_,F_,F_,F_,F_,F_,F_,F_,F_,F_,F_,F_,F_,F_] HT_ ?_
               refine pU 7 (some 34) #[T_,T_,T_,T_,T_,T_,T_,T_,F_,F_,F_,F_,F_,F_,F_,F_,F_,F_,F_,F_,F_,F_,F_] HT_ ?_
               refine pU 8 (some 35) #[T_,T_,T_,T_,T_,T_,T_,T_,T_,F_,F_,F_,F_,F_,F_,F_,F_,F_,F_,F_,F_,F_,F_] HT_ ?_
               refine pU 9 (some 36) #[T_,T_,T_,T_,T_,T_,T_,T_,T_,T_,F_,F_,F_,F_,F_,F_,F_,F_,F_,F_,F_,F_,F_] HT_ ?_
               refine pU 10 (some 37) #[T_,T_,T_,T_,T_,T_,T_,T_,T_,T_,T_,F_,F_,F_,F_,F_,F_,F_,F_,F_,F_,F_,F_] HT_ ?_
               refine pU 11 (some 38) #[T_,T_,T_,T_,T_,T_,T_,T_,T_,T_,T_,T_,F_,F_,F_,F_,F_,F_,F_,F_,F_,F_,F_] HT_ ?_
               refine pU 12 (some 39) #[T_,T_,T_,T_,T_,T_,T_,T_,T_,T_,T_,T_,T_,F_,F_,F_,F_,F_,F_,F_,F_,F_,F_] HT_ ?_
               refine pU 13 (some 40) #[T_,T_,T_,T_,T_,T_,T_,T_,T_,T_,T_,T_,T_,T_,F_,F_,F_,F_,F_,F_,F_,F_,F_] HT_ ?_
               refine pU 15 (some 42) #[T_,T_,T_,T_,T_,T_,T_,T_,T_,T_,T_,T_,T_,T_,F_,T_,F_,F_,F_,F_,F_,F_,F_] HT_ ?_
               refine pU 16 (some 43) #[T_,T_,T_,T_,T_,T_,T_,T_,T_,T_,T_,T_,T_,T_,F_,T_,T_,F_,F_,F_,F_,F_,F_] HT_ ?_
               refine pU 17 (some 44) #[T_,T_,T_,T_,T_,T_,T_,T_,T_,T_,T_,T_,T_,T_,F_,T_,T_,T_,F_,F_,F_,F_,F_] HT_ ?_
               refine pU 18 (some 45) #[T_,T_,T_,T_,T_,T_,T_,T_,T_,T_,T_,T_,T_,T_,F_,T_,T_,T_,T_,F_,F_,F_,F_] HT_ ?_
               refine tK 14 (some 41) #[T_,T_,T_,T_,T_,T_,T_,T_,T_,T_,T_,T_,T_,T_,T_,T_,T_,T_,T_,F_,F_,F_,F_] HT_ HW_ hHeld ?_
               refine tK 19 (some 46) #[T_,T_,T_,T_,T_,T_,T_,T_,T_,T_,T_,T_,T_,T_,T_,T_,T_,T_,T_,T_,F_,F_,F_] HT_ HW_ hHeld ?_
               refine pU 20 (some 47) #[T_,T_,T_,T_,T_,T_,T_,T_,T_,T_,T_,T_,T_,T_,T_,T_,T_,T_,T_,T_,T_,F_,F_] HT_ ?_
               refine pU 21 (some 48) #[T_,T_,T_,T_,T_,T_,T_,T_,T_,T_,T_,T_,T_,T_,T_,T_,T_,T_,T_,T_,T_,T_,F_] HT_ ?_
               refine pU 22 (some 49) #[T_,T_,T_,T_,T_,T_,T_,T_,T_,T_,T_,T_,T_,T_,T_,T_,T_,T_,T_,T_,T_,T_,T_] HT_ ?_
               refine done_ (done_of HT_.out (by kernel_rfl)) ?_
               try go_wp2
               go_meet
               case rel => exact ⟨_, ((Op.bytesLess (((rd_T49 l0 x6_2).f0).toList) (((rd_T49 l1 x7_2).f0).toList))), eY, H', ⟨by have := HJ2.out; have := HK2.out; have := HJ10.out; first | omega | exact Nat.le_refl _⟩, ⟨qR HO_5.out⟩, ⟨qH⟩⟩
              ·rw [if_neg c20] at H
               exact absurd H (by simp)
             ·rw [if_neg c19] at H
              exact absurd H (by simp)
            ·rw [if_neg c18] at H
             exact absurd H (by simp)
           ·rw [if_neg c17] at H
            have c17b0 : decide (x6_2 < (l0.length : Int)) = false := decide_eq_false c17
            clear c17
            have H' := Aside0.mk H
            clear H
            try go_wp2
            have n0_ := Aside0.mk (Kd.R_drew HO_5.out)
            have n1_ := Aside0.mk (yD_ HB.out)
            clear HO_5
            clear HB
            have HO_5 := n0_
            have HB := n1_
            clear n0_ n1_
            refine start_ (n := 23) (S := fun w' => True) (ds := []) #[F_,F_,F_,F_,F_,F_,F_,F_,F_,F_,F_,F_,F_,F_,F_,F_,F_,F_,F_,F_,F_,F_,F_] (by kernel_rfl) rfl rfl trivial (fun hHeld => ?_); refine with_tabW armadaref05_Diff.tab7 armadaref05_Diff.bits7 (fun HT_ HW_ => ?_)
            generalize wc.drew = w22 at HO_5 HB hHeld ⊢
            refine pU 0 (some 27) #[T_,F_,F_,F_,F_,F_,F_,F_,F_,F_,F_,F_,F_,F_,F_,F_,F_,F_,F_,F_,F_,F_,F_] HT_ ?_
            refine pU 1 (some 28) #[T_,T_,F_,F_,F_,F_,F_,F_,F_,F_,F_,F_,F_,F_,F_,F_,F_,F_,F_,F_,F_,F_,F_] HT_ ?_
            refine pU 2 (some 29) #[T_,T_,T_,F_,F_,F_,F_,F_,F_,F_,F_,F_,F_,F_,F_,F_,F_,F_,F_,F_,F_,F_,F_] HT_ ?_
            refine pU 3 (some 30) #[T_,T_,T_,T_,F_,F_,F_,F_,F_,F_,F_,F_,F_,F_,F_,F_,F_,F_,F_,F_,F_,F_,F_] HT_ ?_
            refine pU 4 (some 31) #[T_,T_,T_,T_,T_,F_,F_,F_,F_,F_,F_,F_,F_,F_,F_,F_,F_,F_,F_,F_,F_,F_,F_] HT_ ?_
            refine pU 5 (some 32) #[T_,T_,T_,T_,T_,T_,F_,F_,F_,F_,F_,F_,F_,F_,F_,F_,F_,F_,F_,F_,F_,F_,F_] HT_ ?_
            refine pU 6 (some 33) #[T_,T_,T_,T_,T_,T_,T_,F_,F_,F_,F_,F_,F_,F_,F_,F_,F_,F_,F_,F_,F_,F_,F_] HT_ ?_
            refine pU 7 (some 34) #[T_,T_,T_,T_,T_,T_,T_,T_,F_,F_,F_,F_,F_,F_,F_,F_,F_,F_,F_,F_,F_,F_,F_] HT_ ?_
            refine pU 8 (some 35) #[T_,T_,T_,T_,T_,T_,T_,T_,T_,F_,F_,F_,F_,F_,F_,F_,F_,F_,F_,F_,F_,F_,F_] HT_ ?_
            refine pU 9 (some 36) #[T_,T_,T_,T_,T_,T_,T_,T_,T_,T_,F_,F_,F_,F_,F_,F_,F_,F_,F_,F_,F_,F_,F_] HT_ ?_
            refine pN 10 (some 37) #[T_,T_,T_,T_,T_,T_,T_,T_,T_,T_,T_,F_,F_,F_,F_,F_,F_,F_,F_,F_,F_,F_,F_] HT_ ?_
            refine pN 11 (some 38) #[T_,T_,T_,T_,T_,T_,T_,T_,T_,T_,T_,T_,F_,F_,F_,F_,F_,F_,F_,F_,F_,F_,F_] HT_ ?_
            refine pN 12 (some 39) #[T_,T_,T_,T_,T_,T_,T_,T_,T_,T_,T_,T_,T_,F_,F_,F_,F_,F_,F_,F_,F_,F_,F_] HT_ ?_
            refine pN 13 (some 40) #[T_,T_,T_,T_,T_,T_,T_,T_,T_,T_,T_,T_,T_,T_,F_,F_,F_,F_,F_,F_,F_,F_,F_] HT_ ?_
            refine pN 14 (some 41) #[T_,T_,T_,T_,T_,T_,T_,T_,T_,T_,T_,T_,T_,T_,T_,F_,F_,F_,F_,F_,F_,F_,F_] HT_ ?_
            refine pN 15 (some 42) #[T_,T_,T_,T_,T_,T_,T_,T_,T_,T_,T_,T_,T_,T_,T_,T_,F_,F_,F_,F_,F_,F_,F_] HT_ ?_
            refine pN 16 (some 43) #[T_,T_,T_,T_,T_,T_,T_,T_,T_,T_,T_,T_,T_,T_,T_,T_,T_,F_,F_,F_,F_,F_,F_] HT_ ?_
            refine pN 17 (some 44) #[T_,T_,T_,T_,T_,T_,T_,T_,T_,T_,T_,T_,T_,T_,T_,T_,T_,T_,F_,F_,F_,F_,F_] HT_ ?_
            refine pN 18 (some 45) #[T_,T_,T_,T_,T_,T_,T_,T_,T_,T_,T_,T_,T_,T_,T_,T_,T_,T_,T_,F_,F_,F_,F_] HT_ ?_
            refine pN 19 (some 46) #[T_,T_,T_,T_,T_,T_,T_,T_,T_,T_,T_,T_,T_,T_,T_,T_,T_,T_,T_,T_,F_,F_,F_] HT_ ?_
            refine pN 20 (some 47) #[T_,T_,T_,T_,T_,T_,T_,T_,T_,T_,T_,T_,T_,T_,T_,T_,T_,T_,T_,T_,T_,F_,F_] HT_ ?_
            refine pU 21 (some 48) #[T_,T_,T_,T_,T_,T_,T_,T_,T_,T_,T_,T_,T_,T_,T_,T_,T_,T_,T_,T_,T_,T_,F_] HT_ ?_
            refine pU 22 (some 49) #[T_,T_,T_,T_,T_,T_,T_,T_,T_,T_,T_,T_,T_,T_,T_,T_,T_,T_,T_,T_,T_,T_,T_] HT_ ?_
            refine done_ (done_of HT_.out (by kernel_rfl)) ?_
            try go_wp2
            go_meet
            case rel => exact ⟨_, (false), eY, H', ⟨by have := HJ2.out; have := HK2.out; have := HJ10.out; first | omega | exact Nat.le_refl _⟩, ⟨qR HO_5.out⟩, ⟨qH⟩⟩
         case rest =>
          clear HC14
          (try clear p2); (try clear q2); (try clear c13); (try clear p2); (try clear p265); (try clear p266); (try clear q265); (try clear q266)
          obtain ⟨kq, x49_13, rfl, HA, HJ13, HO_5, HB⟩ := hcut
          cases kq with
          | zero => exact absurd HA.out (by simp [armadaref05_Diff.j3])
          | succ kj13 =>
           have H := HA.out
           clear HA
           simp only [armadaref05_Diff.j3] at H
           by_cases c23 : x49_13 = true
           ·subst c23
            rw [if_pos rfl] at H
            by_cases c24 : 0 ≤ x6_2
            ·rw [if_pos c24] at H
             have c24b0 : decide (0 ≤ x6_2) = true := decide_eq_true c24
             clear c24
             by_cases c25 : x6_2 < (l0.length : Int)
             ·rw [if_pos c25] at H
              have c25b0 : decide (x6_2 < (l0.length : Int)) = true := decide_eq_true c25
              clear c25
              by_cases c26 : x5_2.length < 3518437208883
              ·rw [if_pos c26] at H
               have LMc26 := Aside0.mk c26
               clear c26
               obtain ⟨y268, hy268⟩ : ∃ y_ : List (S45), y_ = (x5_2 ++ [(⟨true, (rd_T49 l0 x6_2).f0, (⟨#[]⟩ : ByteArray)⟩ : S45)]) := ⟨_, rfl⟩
               replace H : (armadaref05_Diff.l0 kj13 l0 l1 y268 (wrap64 (x6_2 + 1)) x7_2) = some r := by first | (rw [hy268]; with_reducible exact H) | (have H2_ := (Option.bind_some _ _).symm.trans H; rw [hy268]; with_reducible exact H2_) | (have H2_ := (Option.bind_some _ _).symm.trans H; with_reducible exact H2_) | with_reducible exact H | (rw [hy268]; exact H) | exact H
               have Ny268 := Aside0.mk hy268
               clear hy268
               have H' := Aside0.mk H
               clear H
               have p267 : 0 ≤ (x6_2 : Int) := of_decide_eq_true aS
               have q267 : x6_2 < (l0.length : Int) := of_decide_eq_true aS
               obtain ⟨ad267, e267, hx267_0, hx267_1⟩ := at_T49 HR0.out x6_2 p267 q267
               cases e267
               replace hx267_0 := (HB.out.cell (World.block_lt_of_cell? w _ hx267_0)).trans hx267_0
               replace hx267_1 := (HB.out.cell (World.block_lt_of_cell? w _ hx267_1)).trans hx267_1
               replace p267 := eq_true p267
               replace q267 := eq_true q267
               go_wp2_with (first | ((with_reducible refine gate_builtin (b := .append) (xs := #[.tmp 50, .tmp 57]) rfl ?_); (try (refine gate_guard (by rfl) ?_; dsimp only)); at_builtin; refine Kd.R_append k45 (w0 := w) w.heap.size rfl (.tmp 50) (.tmp 57) 30 45 (.agg #[(.bool false), (.string ⟨#[]⟩), (.string ⟨#[]⟩)]) 40 rfl Tryd.underlying30 info45 rfl (by decide) (by omega) u5 x5_2 (⟨true, (rd_T49 l0 x6_2).f0, (⟨#[]⟩ : ByteArray)⟩ : S45) [.bool true, .string ((rd_T49 l0 x6_2).f0), .string (⟨#[]⟩ : ByteArray)] (fun _ => True) (fun _ => False) rfl rfl ?aP (fun _ hk => hk.elim) ?aF ?aO ?aB ?aS ?aL ?_; (case aP => exact k45_mkM _ _ _ (⟨true, (rd_T49 l0 x6_2).f0, (⟨#[]⟩ : ByteArray)⟩ : S45)); (case aB => exact qH); (case aF => exact (fun _ _ => trivial)); (case aO => exact (qR HO_5.out)); (case aS => exact (below_size qH)); (case aL => have := LMc26.out; omega); intro v269 w27 ho hb hg hat; rw [← Ny268.out] at ho; have n0_ := Aside0.mk (hb); have n1_ := Aside0.mk (ho); clear HB; clear HO_5; have HB := n0_; have HO270 := n1_; clear n0_ n1_; clear ho hb hg hat))
               go_roundg kj13
               case measure => have := HJ2.out; have := HK2.out; have := HJ10.out; have := HJ13.out; omega
               case rel => exact ⟨(y268), (wrap64 (x6_2 + 1)), (x7_2), eY, eY, H', ⟨by have := HJ2.out; have := HK2.out; have := HJ10.out; have := HJ13.out; omega⟩, ⟨qR HO270.out⟩, ⟨qH⟩⟩
              ·rw [if_neg c26] at H
               exact absurd H (by simp)
             ·rw [if_neg c25] at H
              exact absurd H (by simp)
            ·rw [if_neg c24] at H
             exact absurd H (by simp)
           ·replace c23 := Bool.eq_false_iff.mpr c23
            subst c23
            rw [if_neg nF_] at H
            have HC28 := Aside0.mk H
            clear H
            go_upto_region 10 with (fail)
            go_cut [77] (fun v77 wc => ∃ (kq : Nat) (x77_27 : Bool), v77 = .bool x77_27 ∧ Aside0 (armadaref05_Diff.j4 kq l0 l1 x5_2 x6_2 x7_2 x77_27 = some r) ∧ Aside0 (kq ≤ kj13) ∧ Aside0 (Kd.R k45 45 wc w.heap.size (fun _ => True) u5 x5_2) ∧ Aside0 (Below w.heap.size w wc))
            case first =>
             have H := HC28.out
             clear HC28
             by_cases c29 : x6_2 = (l0.length : Int)
             ·rw [if_pos c29] at H
              have c29b0 : (x6_2 == (l0.length : Int)) = true := beq_iff_eq.mpr c29
              have c29b1 : (x6_2 != (l0.length : Int)) = false := bne_eq_false_iff_eq.mpr c29
              clear c29
              (first | rw [c29b0] | (simp only [i64_w, i32_w]; rw [c29b0]) | skip)
              have H' := Aside0.mk H
              clear H
              try go_wp2
              have n0_ := Aside0.mk (Kd.R_drew HO_5.out)
              have n1_ := Aside0.mk (yD_ HB.out)
              clear HO_5
              clear HB
              have HO_5 := n0_
              have HB := n1_
              clear n0_ n1_
              refine start_ (n := 17) (S := fun w' => True) (ds := []) #[F_,F_,F_,F_,F_,F_,F_,F_,F_,F_,F_,F_,F_,F_,F_,F_,F_] (by kernel_rfl) rfl rfl trivial (fun hHeld => ?_); refine with_tabW armadaref05_Diff.tab10 armadaref05_Diff.bits10 (fun HT_ HW_ => ?_)
              generalize wc.drew = w30 at HO_5 HB hHeld ⊢
              refine pU 0 (some 61) #[T_,F_,F_,F_,F_,F_,F_,F_,F_,F_,F_,F_,F_,F_,F_,F_,F_] HT_ ?_
              refine pU 1 (some 62) #[T_,T_,F_,F_,F_,F_,F_,F_,F_,F_,F_,F_,F_,F_,F_,F_,F_] HT_ ?_
              refine pU 2 (some 63) #[T_,T_,T_,F_,F_,F_,F_,F_,F_,F_,F_,F_,F_,F_,F_,F_,F_] HT_ ?_
              refine pU 3 (some 64) #[T_,T_,T_,T_,F_,F_,F_,F_,F_,F_,F_,F_,F_,F_,F_,F_,F_] HT_ ?_
              refine pU 4 (some 65) #[T_,T_,T_,T_,T_,F_,F_,F_,F_,F_,F_,F_,F_,F_,F_,F_,F_] HT_ ?_
              refine pN 5 (some 66) #[T_,T_,T_,T_,T_,T_,F_,F_,F_,F_,F_,F_,F_,F_,F_,F_,F_] HT_ ?_
              refine pN 6 (some 67) #[T_,T_,T_,T_,T_,T_,T_,F_,F_,F_,F_,F_,F_,F_,F_,F_,F_] HT_ ?_
              refine pN 7 (some 68) #[T_,T_,T_,T_,T_,T_,T_,T_,F_,F_,F_,F_,F_,F_,F_,F_,F_] HT_ ?_
              refine pN 8 (some 69) #[T_,T_,T_,T_,T_,T_,T_,T_,T_,F_,F_,F_,F_,F_,F_,F_,F_] HT_ ?_
              refine pN 9 (some 70) #[T_,T_,T_,T_,T_,T_,T_,T_,T_,T_,F_,F_,F_,F_,F_,F_,F_] HT_ ?_
              refine pN 10 (some 71) #[T_,T_,T_,T_,T_,T_,T_,T_,T_,T_,T_,F_,F_,F_,F_,F_,F_] HT_ ?_
              refine pN 11 (some 72) #[T_,T_,T_,T_,T_,T_,T_,T_,T_,T_,T_,T_,F_,F_,F_,F_,F_] HT_ ?_
              refine pN 12 (some 73) #[T_,T_,T_,T_,T_,T_,T_,T_,T_,T_,T_,T_,T_,F_,F_,F_,F_] HT_ ?_
              refine pN 13 (some 74) #[T_,T_,T_,T_,T_,T_,T_,T_,T_,T_,T_,T_,T_,T_,F_,F_,F_] HT_ ?_
              refine pN 14 (some 75) #[T_,T_,T_,T_,T_,T_,T_,T_,T_,T_,T_,T_,T_,T_,T_,F_,F_] HT_ ?_
              refine pN 15 (some 76) #[T_,T_,T_,T_,T_,T_,T_,T_,T_,T_,T_,T_,T_,T_,T_,T_,F_] HT_ ?_
              refine pU 16 (some 77) #[T_,T_,T_,T_,T_,T_,T_,T_,T_,T_,T_,T_,T_,T_,T_,T_,T_] HT_ ?_
              refine done_ (done_of HT_.out (by kernel_rfl)) ?_
              try go_wp2
              go_meet
              case rel => exact ⟨_, (true), eY, H', ⟨by have := HJ2.out; have := HK2.out; have := HJ10.out; have := HJ13.out; first | omega | exact Nat.le_refl _⟩, ⟨qR HO_5.out⟩, ⟨qH⟩⟩
             ·rw [if_neg c29] at H
              have c29b0 : (x6_2 == (l0.length : Int)) = false := beq_eq_false_iff_ne.mpr c29
              have c29b1 : (x6_2 != (l0.length : Int)) = true := bne_iff_ne.mpr c29
              (first | rw [c29b0] | (simp only [i64_w, i32_w]; rw [c29b0]) | skip)
              by_cases c31 : 0 ≤ x6_2
              ·rw [if_pos c31] at H
               have c31b0 : decide (0 ≤ x6_2) = true := decide_eq_true c31
               clear c31
               by_cases c32 : x6_2 < (l0.length : Int)
               ·rw [if_pos c32] at H
                have c32b0 : decide (x6_2 < (l0.length : Int)) = true := decide_eq_true c32
                clear c32
                by_cases c33 : 0 ≤ x7_2
                ·rw [if_pos c33] at H
                 have c33b0 : decide (0 ≤ x7_2) = true := decide_eq_true c33
                 clear c33
                 by_cases c34 : x7_2 < (l1.length : Int)
                 ·rw [if_pos c34] at H
                  have c34b0 : decide (x7_2 < (l1.length : Int)) = true := decide_eq_true c34
                  clear c34
                  have H' := Aside0.mk H
                  clear H
                  try go_wp2
                  have n0_ := Aside0.mk (Kd.R_drew HO_5.out)
                  have n1_ := Aside0.mk (yD_ HB.out)
                  clear HO_5
                  clear HB
                  have HO_5 := n0_
                  have HB := n1_
                  clear n0_ n1_
                  have p271 : 0 ≤ (x6_2 : Int) := of_decide_eq_true aS
                  have q271 : x6_2 < (l0.length : Int) := of_decide_eq_true aS
                  obtain ⟨ad271, e271, hx271_0, hx271_1⟩ := at_T49 HR0.out x6_2 p271 q271
                  have hw271_1 := hx271_1
                  have hw271_0 := hx271_0
                  cases e271
                  replace hx271_0 := (HB.out.cell (World.block_lt_of_cell? w _ hx271_0)).trans hx271_0
                  replace hx271_1 := (HB.out.cell (World.block_lt_of_cell? w _ hx271_1)).trans hx271_1
                  replace p271 := eq_true p271
                  replace q271 := eq_true q271
                  have p272 : 0 ≤ (x7_2 : Int) := of_decide_eq_true aS
                  have q272 : x7_2 < (l1.length : Int) := of_decide_eq_true aS
                  obtain ⟨ad272, e272, hx272_0, hx272_1⟩ := at_T49 HR1.out x7_2 p272 q272
                  have hw272_1 := hx272_1
                  have hw272_0 := hx272_0
                  cases e272
                  replace hx272_0 := (HB.out.cell (World.block_lt_of_cell? w _ hx272_0)).trans hx272_0
                  replace hx272_1 := (HB.out.cell (World.block_lt_of_cell? w _ hx272_1)).trans hx272_1
                  replace p272 := eq_true p272
                  replace q272 := eq_true q272
                  refine start_ (n := 17) (S := fun w' => w'.cell? (ad271.add ((x6_2).toNat * 2)) = some (.string ((rd_T49 l0 x6_2).f0)) ∧ w'.cell? ⟨(ad271.add ((x6_2).toNat * 2)).block, (ad271.add ((x6_2).toNat * 2)).off + 1, none⟩ = some (.string ((rd_T49 l0 x6_2).f1)) ∧ w'.cell? (ad272.add ((x7_2).toNat * 2)) = some (.string ((rd_T49 l1 x7_2).f0)) ∧ w'.cell? ⟨(ad272.add ((x7_2).toNat * 2)).block, (ad272.add ((x7_2).toNat * 2)).off + 1, none⟩ = some (.string ((rd_T49 l1 x7_2).f1))) (ds := []) #[F_,F_,F_,F_,F_,F_,F_,F_,F_,F_,F_,F_,F_,F_,F_,F_,F_] (by kernel_rfl) rfl rfl ⟨((HB.out.cell (World.block_lt_of_cell? w _ hw271_0)).trans hw271_0), ((HB.out.cell (World.block_lt_of_cell? w _ hw271_1)).trans hw271_1), ((HB.out.cell (World.block_lt_of_cell? w _ hw272_0)).trans hw272_0), ((HB.out.cell (World.block_lt_of_cell? w _ hw272_1)).trans hw272_1)⟩ (fun hHeld => ?_); refine with_tabW armadaref05_Diff.tab10 armadaref05_Diff.bits10 (fun HT_ HW_ => ?_)
                  generalize wc.drew = w35 at HO_5 HB hx271_0 hx271_1 hx272_0 hx272_1 hHeld ⊢
                  refine pU 0 (some 61) #[T_,F_,F_,F_,F_,F_,F_,F_,F_,F_,F_,F_,F_,F_,F_,F_,F_] HT_ ?_
                  refine pU 1 (some 62) #[T_,T_,F_,F_,F_,F_,F_,F_,F_,F_,F_,F_,F_,F_,F_,F_,F_] HT_ ?_
                  refine pU 2 (some 63) #[T_,T_,T_,F_,F_,F_,F_,F_,F_,F_,F_,F_,F_,F_,F_,F_,F_] HT_ ?_
                  refine pU 3 (some 64) #[T_,T_,T_,T_,F_,F_,F_,F_,F_,F_,F_,F_,F_,F_,F_,F_,F_] HT_ ?_
                  refine pU 4 (some 65) #[T_,T_,T_,T_,T_,F_,F_,F_,F_,F_,F_,F_,F_,F_,F_,F_,F_] HT_ ?_
                  refine pU 5 (some 66) #[T_,T_,T_,T_,T_,T_,F_,F_,F_,F_,F_,F_,F_,F_,F_,F_,F_] HT_ ?_
                  refine pU 6 (some 67) #[T_,T_,T_,T_,T_,T_,T_,F_,F_,F_,F_,F_,F_,F_,F_,F_,F_] HT_ ?_
                  refine pU 7 (some 68) #[T_,T_,T_,T_,T_,T_,T_,T_,F_,F_,F_,F_,F_,F_,F_,F_,F_] HT_ ?_
                  refine pU 8 (some 69) #[T_,T_,T_,T_,T_,T_,T_,T_,T_,F_,F_,F_,F_,F_,F_,F_,F_] HT_ ?_
                  refine pU 10 (some 71) #[T_,T_,T_,T_,T_,T_,T_,T_,T_,F_,T_,F_,F_,F_,F_,F_,F_] HT_ ?_
                  refine pU 11 (some 72) #[T_,T_,T_,T_,T_,T_,T_,T_,T_,F_,T_,T_,F_,F_,F_,F_,F_] HT_ ?_
                  refine pU 12 (some 73) #[T_,T_,T_,T_,T_,T_,T_,T_,T_,F_,T_,T_,T_,F_,F_,F_,F_] HT_ ?_
                  refine pU 13 (some 74) #[T_,T_,T_,T_,T_,T_,T_,T_,T_,F_,T_,T_,T_,T_,F_,F_,F_] HT_ ?_
                  refine tK 9 (some 70) #[T_,T_,T_,T_,T_,T_,T_,T_,T_,T_,T_,T_,T_,T_,F_,F_,F_] HT_ HW_ hHeld ?_
                  refine tK 14 (some 75) #[T_,T_,T_,T_,T_,T_,T_,T_,T_,T_,T_,T_,T_,T_,T_,F_,F_] HT_ HW_ hHeld ?_
                  refine pU 15 (some 76) #[T_,T_,T_,T_,T_,T_,T_,T_,T_,T_,T_,T_,T_,T_,T_,T_,F_] HT_ ?_
                  refine pU 16 (some 77) #[T_,T_,T_,T_,T_,T_,T_,T_,T_,T_,T_,T_,T_,T_,T_,T_,T_] HT_ ?_
                  refine done_ (done_of HT_.out (by kernel_rfl)) ?_
                  try go_wp2
                  go_meet
                  case rel => exact ⟨_, ((Op.bytesLess (((rd_T49 l1 x7_2).f0).toList) (((rd_T49 l0 x6_2).f0).toList))), eY, H', ⟨by have := HJ2.out; have := HK2.out; have := HJ10.out; have := HJ13.out; first | omega | exact Nat.le_refl _⟩, ⟨qR HO_5.out⟩, ⟨qH⟩⟩
                 ·rw [if_neg c34] at H
                  exact absurd H (by simp)
                ·rw [if_neg c33] at H
                 exact absurd H (by simp)
               ·rw [if_neg c32] at H
                exact absurd H (by simp)
              ·rw [if_neg c31] at H
               exact absurd H (by simp)
            case rest =>
             clear HC28
             (try clear p2); (try clear q2); (try clear p6); (try clear c23); (try clear p26); (try clear q26); (try clear p27); (try clear q27); (try clear p2)
             (try clear p265); (try clear p266); (try clear p267); (try clear p271); (try clear p272); (try clear q2); (try clear q265); (try clear q266); (try clear q267)
             (try clear q271); (try clear q272)
             obtain ⟨kq, x77_27, rfl, HA, HJ27, HO_5, HB⟩ := hcut
             cases kq with
             | zero => exact absurd HA.out (by simp [armadaref05_Diff.j4])
             | succ kj27 =>
              have H := HA.out
              clear HA
              simp only [armadaref05_Diff.j4] at H
              by_cases c36 : x77_27 = true
              ·subst c36
               rw [if_pos rfl] at H
               by_cases c37 : 0 ≤ x7_2
               ·rw [if_pos c37] at H
                have c37b0 : decide (0 ≤ x7_2) = true := decide_eq_true c37
                clear c37
                by_cases c38 : x7_2 < (l1.length : Int)
                ·rw [if_pos c38] at H
                 have c38b0 : decide (x7_2 < (l1.length : Int)) = true := decide_eq_true c38
                 clear c38
                 by_cases c39 : x5_2.length < 3518437208883
                 ·rw [if_pos c39] at H
                  have LMc39 := Aside0.mk c39
                  clear c39
                  obtain ⟨y275, hy275⟩ : ∃ y_ : List (S45), y_ = (x5_2 ++ [(⟨false, (rd_T49 l1 x7_2).f0, (rd_T49 l1 x7_2).f1⟩ : S45)]) := ⟨_, rfl⟩
                  replace H : (armadaref05_Diff.l0 kj27 l0 l1 y275 x6_2 (wrap64 (x7_2 + 1))) = some r := by first | (rw [hy275]; with_reducible exact H) | (have H2_ := (Option.bind_some _ _).symm.trans H; rw [hy275]; with_reducible exact H2_) | (have H2_ := (Option.bind_some _ _).symm.trans H; with_reducible exact H2_) | with_reducible exact H | (rw [hy275]; exact H) | exact H
                  have Ny275 := Aside0.mk hy275
                  clear hy275
                  have H' := Aside0.mk H
                  clear H
                  try go_wp2
                  have n0_ := Aside0.mk (Kd.R_drew HO_5.out)
                  have n1_ := Aside0.mk (yD_ HB.out)
                  clear HO_5
                  clear HB
                  have HO_5 := n0_
                  have HB := n1_
                  clear n0_ n1_
                  have p273 : 0 ≤ (x7_2 : Int) := of_decide_eq_true aS
                  have q273 : x7_2 < (l1.length : Int) := of_decide_eq_true aS
                  obtain ⟨ad273, e273, hx273_0, hx273_1⟩ := at_T49 HR1.out x7_2 p273 q273
                  have hw273_1 := hx273_1
                  have hw273_0 := hx273_0
                  cases e273
                  replace hx273_0 := (HB.out.cell (World.block_lt_of_cell? w _ hx273_0)).trans hx273_0
                  replace hx273_1 := (HB.out.cell (World.block_lt_of_cell? w _ hx273_1)).trans hx273_1
                  replace p273 := eq_true p273
                  replace q273 := eq_true q273
                  have p274 : 0 ≤ (x7_2 : Int) := of_decide_eq_true aS
                  have q274 : x7_2 < (l1.length : Int) := of_decide_eq_true aS
                  obtain ⟨ad274, e274, hx274_0, hx274_1⟩ := at_T49 HR1.out x7_2 p274 q274
                  have hw274_1 := hx274_1
                  have hw274_0 := hx274_0
                  obtain rfl : ad273 = ad274 := (by injection e274)
                  replace hx274_0 := (HB.out.cell (World.block_lt_of_cell? w _ hx274_0)).trans hx274_0
                  replace hx274_1 := (HB.out.cell (World.block_lt_of_cell? w _ hx274_1)).trans hx274_1
                  replace p274 := eq_true p274
                  replace q274 := eq_true q274
                  refine start_ (n := 15) (S := fun w' => w'.cell? (ad273.add ((x7_2).toNat * 2)) = some (.string ((rd_T49 l1 x7_2).f0)) ∧ w'.cell? ⟨(ad273.add ((x7_2).toNat * 2)).block, (ad273.add ((x7_2).toNat * 2)).off + 1, none⟩ = some (.string ((rd_T49 l1 x7_2).f1)) ∧ w'.cell? (ad273.add ((x7_2).toNat * 2)) = some (.string ((rd_T49 l1 x7_2).f0)) ∧ w'.cell? ⟨(ad273.add ((x7_2).toNat * 2)).block, (ad273.add ((x7_2).toNat * 2)).off + 1, none⟩ = some (.string ((rd_T49 l1 x7_2).f1))) (ds := []) #[F_,F_,F_,F_,F_,F_,F_,F_,F_,F_,F_,F_,F_,F_,F_] (by kernel_rfl) rfl rfl ⟨((HB.out.cell (World.block_lt_of_cell? w _ hw273_0)).trans hw273_0), ((HB.out.cell (World.block_lt_of_cell? w _ hw273_1)).trans hw273_1), ((HB.out.cell (World.block_lt_of_cell? w _ hw274_0)).trans hw274_0), ((HB.out.cell (World.block_lt_of_cell? w _ hw274_1)).trans hw274_1)⟩ (fun hHeld => ?_); refine with_tabW armadaref05_Diff.tab11 armadaref05_Diff.bits11 (fun HT_ HW_ => ?_)
                  generalize wc.drew = w40 at HO_5 HB hx273_0 hx273_1 hx274_0 hx274_1 hHeld ⊢
                  refine pU 0 (some 78) #[T_,F_,F_,F_,F_,F_,F_,F_,F_,F_,F_,F_,F_,F_,F_] HT_ ?_
                  refine pU 1 (some 79) #[T_,T_,F_,F_,F_,F_,F_,F_,F_,F_,F_,F_,F_,F_,F_] HT_ ?_
                  refine pU 2 (some 80) #[T_,T_,T_,F_,F_,F_,F_,F_,F_,F_,F_,F_,F_,F_,F_] HT_ ?_
                  refine pU 3 (some 81) #[T_,T_,T_,T_,F_,F_,F_,F_,F_,F_,F_,F_,F_,F_,F_] HT_ ?_
                  refine pU 4 (some 82) #[T_,T_,T_,T_,T_,F_,F_,F_,F_,F_,F_,F_,F_,F_,F_] HT_ ?_
                  refine pU 6 (some 84) #[T_,T_,T_,T_,T_,F_,T_,F_,F_,F_,F_,F_,F_,F_,F_] HT_ ?_
                  refine pU 7 (some 85) #[T_,T_,T_,T_,T_,F_,T_,T_,F_,F_,F_,F_,F_,F_,F_] HT_ ?_
                  refine pU 8 (some 86) #[T_,T_,T_,T_,T_,F_,T_,T_,T_,F_,F_,F_,F_,F_,F_] HT_ ?_
                  refine pU 9 (some 87) #[T_,T_,T_,T_,T_,F_,T_,T_,T_,T_,F_,F_,F_,F_,F_] HT_ ?_
                  refine tK 5 (some 83) #[T_,T_,T_,T_,T_,T_,T_,T_,T_,T_,F_,F_,F_,F_,F_] HT_ HW_ hHeld ?_
                  refine tK 10 (some 88) #[T_,T_,T_,T_,T_,T_,T_,T_,T_,T_,T_,F_,F_,F_,F_] HT_ HW_ hHeld ?_
                  refine pU 11 (some 89) #[T_,T_,T_,T_,T_,T_,T_,T_,T_,T_,T_,T_,F_,F_,F_] HT_ ?_
                  refine oN 12 (some 90) #[T_,T_,T_,T_,T_,T_,T_,T_,T_,T_,T_,T_,T_,F_,F_] HT_ (fun K hK => ?_)
                  refine value_ (w1 := ?_) (v := ?_) (by rfl) rfl ?_ ?_
                  rotate_left 2
                  ·go_simp
                   constructor
                   ·rfl
                   ·rfl
                  refine hK.out _ _ ⟨(World.cell?_alloc_lt _ _ _ (World.block_lt_of_cell? _ _ (((HB.out.cell (World.block_lt_of_cell? w _ hw273_0)).trans hw273_0)))).trans (((HB.out.cell (World.block_lt_of_cell? w _ hw273_0)).trans hw273_0)), (World.cell?_alloc_lt _ _ _ (World.block_lt_of_cell? _ _ (((HB.out.cell (World.block_lt_of_cell? w _ hw273_1)).trans hw273_1)))).trans (((HB.out.cell (World.block_lt_of_cell? w _ hw273_1)).trans hw273_1)), (World.cell?_alloc_lt _ _ _ (World.block_lt_of_cell? _ _ (((HB.out.cell (World.block_lt_of_cell? w _ hw274_0)).trans hw274_0)))).trans (((HB.out.cell (World.block_lt_of_cell? w _ hw274_0)).trans hw274_0)), (World.cell?_alloc_lt _ _ _ (World.block_lt_of_cell? _ _ (((HB.out.cell (World.block_lt_of_cell? w _ hw274_1)).trans hw274_1)))).trans (((HB.out.cell (World.block_lt_of_cell? w _ hw274_1)).trans hw274_1))⟩ (fun hHeld => ?_)
                  clear hK K
                  refine nS (some 90) ?_
                  refine oN 13 (some 91) #[T_,T_,T_,T_,T_,T_,T_,T_,T_,T_,T_,T_,T_,T_,F_] HT_ (fun K hK => ?_)
                  refine Kd.R_append_step k45 (w0 := w) w.heap.size (by rfl) (.tmp 78) (.tmp 90) 30 45 (.agg #[(.bool false), (.string ⟨#[]⟩), (.string ⟨#[]⟩)]) 40 rfl Tryd.underlying30 info45 rfl (by decide) (by omega) u5 x5_2 (⟨false, (rd_T49 l1 x7_2).f0, (rd_T49 l1 x7_2).f1⟩ : S45) [.bool false, .string ((rd_T49 l1 x7_2).f0), .string ((rd_T49 l1 x7_2).f1)] (fun _ => True) (fun _ => False) rfl rfl ?aP (fun _ hk => hk.elim) ?aF ?aO ?aB ?aS ?aL ?_
                  (case aP => exact k45_mkM _ _ _ (⟨false, (rd_T49 l1 x7_2).f0, (rd_T49 l1 x7_2).f1⟩ : S45))
                  (case aB => exact qH)
                  (case aF => exact (fun _ _ => trivial))
                  (case aO => exact (qR HO_5.out))
                  (case aS => exact (below_size qH))
                  (case aL => have := LMc39.out; omega)
                  intro v276 w41 ho hb hg hat
                  rw [← Ny275.out] at ho
                  have n0_ := Aside0.mk (hb)
                  have n1_ := Aside0.mk (ho)
                  clear HB
                  clear HO_5
                  have HB := n0_
                  have HO277 := n1_
                  clear n0_ n1_
                  clear ho hb hg hat
                  refine hK.out _ _ ⟨((HB.out.cell (World.block_lt_of_cell? w _ hw273_0)).trans hw273_0), ((HB.out.cell (World.block_lt_of_cell? w _ hw273_1)).trans hw273_1), ((HB.out.cell (World.block_lt_of_cell? w _ hw274_0)).trans hw274_0), ((HB.out.cell (World.block_lt_of_cell? w _ hw274_1)).trans hw274_1)⟩ (fun hHeld => ?_)
                  clear hK K
                  refine nS (some 91) ?_
                  refine pU 14 (some 5) #[T_,T_,T_,T_,T_,T_,T_,T_,T_,T_,T_,T_,T_,T_,T_] HT_ ?_
                  refine done_ (done_of HT_.out (by kernel_rfl)) ?_
                  try go_wp2
                  go_roundg kj27
                  case measure => have := HJ2.out; have := HK2.out; have := HJ10.out; have := HJ13.out; have := HJ27.out; omega
                  case rel => exact ⟨(y275), (x6_2), (wrap64 (x7_2 + 1)), eY, eY, H', ⟨by have := HJ2.out; have := HK2.out; have := HJ10.out; have := HJ13.out; have := HJ27.out; omega⟩, ⟨qR HO277.out⟩, ⟨qH⟩⟩
                 ·rw [if_neg c39] at H
                  exact absurd H (by simp)
                ·rw [if_neg c38] at H
                 exact absurd H (by simp)
               ·rw [if_neg c37] at H
                exact absurd H (by simp)
              ·replace c36 := Bool.eq_false_iff.mpr c36
               subst c36
               rw [if_neg nF_] at H
               by_cases c42 : 0 ≤ x6_2
               ·rw [if_pos c42] at H
                have c42b0 : decide (0 ≤ x6_2) = true := decide_eq_true c42
                clear c42
                by_cases c43 : x6_2 < (l0.length : Int)
                ·rw [if_pos c43] at H
                 have c43b0 : decide (x6_2 < (l0.length : Int)) = true := decide_eq_true c43
                 clear c43
                 by_cases c44 : 0 ≤ x7_2
                 ·rw [if_pos c44] at H
                  have c44b0 : decide (0 ≤ x7_2) = true := decide_eq_true c44
                  clear c44
                  by_cases c45 : x7_2 < (l1.length : Int)
                  ·rw [if_pos c45] at H
                   have c45b0 : decide (x7_2 < (l1.length : Int)) = true := decide_eq_true c45
                   clear c45
                   by_cases c46 : ((rd_T49 l0 x6_2).f1).toList = ((rd_T49 l1 x7_2).f1).toList
                   ·rw [if_pos c46] at H
                    have c46b0 : (((rd_T49 l0 x6_2).f1).toList == ((rd_T49 l1 x7_2).f1).toList) = true := beq_iff_eq.mpr c46
                    have c46b1 : (((rd_T49 l0 x6_2).f1).toList != ((rd_T49 l1 x7_2).f1).toList) = false := bne_eq_false_iff_eq.mpr c46
                    clear c46
                    have H' := Aside0.mk H
                    clear H
                    try go_wp2
                    have n0_ := Aside0.mk (Kd.R_drew HO_5.out)
                    have n1_ := Aside0.mk (yD_ HB.out)
                    clear HO_5
                    clear HB
                    have HO_5 := n0_
                    have HB := n1_
                    clear n0_ n1_
                    have p278 : 0 ≤ (x6_2 : Int) := of_decide_eq_true aS
                    have q278 : x6_2 < (l0.length : Int) := of_decide_eq_true aS
                    obtain ⟨ad278, e278, hx278_0, hx278_1⟩ := at_T49 HR0.out x6_2 p278 q278
                    have hw278_1 := hx278_1
                    have hw278_0 := hx278_0
                    cases e278
                    replace hx278_0 := (HB.out.cell (World.block_lt_of_cell? w _ hx278_0)).trans hx278_0
                    replace hx278_1 := (HB.out.cell (World.block_lt_of_cell? w _ hx278_1)).trans hx278_1
                    replace p278 := eq_true p278
                    replace q278 := eq_true q278
                    have p279 : 0 ≤ (x7_2 : Int) := of_decide_eq_true aS
                    have q279 : x7_2 < (l1.length : Int) := of_decide_eq_true aS
                    obtain ⟨ad279, e279, hx279_0, hx279_1⟩ := at_T49 HR1.out x7_2 p279 q279
                    have hw279_1 := hx279_1
                    have hw279_0 := hx279_0
                    cases e279
                    replace hx279_0 := (HB.out.cell (World.block_lt_of_cell? w _ hx279_0)).trans hx279_0
                    replace hx279_1 := (HB.out.cell (World.block_lt_of_cell? w _ hx279_1)).trans hx279_1
                    replace p279 := eq_true p279
                    replace q279 := eq_true q279
                    refine start_ (n := 11) (S := fun w' => w'.cell? (ad278.add ((x6_2).toNat * 2)) = some (.string ((rd_T49 l0 x6_2).f0)) ∧ w'.cell? ⟨(ad278.add ((x6_2).toNat * 2)).block, (ad278.add ((x6_2).toNat * 2)).off + 1, none⟩ = some (.string ((rd_T49 l0 x6_2).f1)) ∧ w'.cell? (ad279.add ((x7_2).toNat * 2)) = some (.string ((rd_T49 l1 x7_2).f0)) ∧ w'.cell? ⟨(ad279.add ((x7_2).toNat * 2)).block, (ad279.add ((x7_2).toNat * 2)).off + 1, none⟩ = some (.string ((rd_T49 l1 x7_2).f1))) (ds := []) #[F_,F_,F_,F_,F_,F_,F_,F_,F_,F_,F_] (by kernel_rfl) rfl rfl ⟨((HB.out.cell (World.block_lt_of_cell? w _ hw278_0)).trans hw278_0), ((HB.out.cell (World.block_lt_of_cell? w _ hw278_1)).trans hw278_1), ((HB.out.cell (World.block_lt_of_cell? w _ hw279_0)).trans hw279_0), ((HB.out.cell (World.block_lt_of_cell? w _ hw279_1)).trans hw279_1)⟩ (fun hHeld => ?_); refine with_tabW armadaref05_Diff.tab13 armadaref05_Diff.bits13 (fun HT_ HW_ => ?_)
                    generalize wc.drew = w47 at HO_5 HB hx278_0 hx278_1 hx279_0 hx279_1 hHeld ⊢
                    refine pU 0 (some 94) #[T_,F_,F_,F_,F_,F_,F_,F_,F_,F_,F_] HT_ ?_
                    refine pU 1 (some 95) #[T_,T_,F_,F_,F_,F_,F_,F_,F_,F_,F_] HT_ ?_
                    refine pU 2 (some 96) #[T_,T_,T_,F_,F_,F_,F_,F_,F_,F_,F_] HT_ ?_
                    refine pU 3 (some 97) #[T_,T_,T_,T_,F_,F_,F_,F_,F_,F_,F_] HT_ ?_
                    refine pU 5 (some 99) #[T_,T_,T_,T_,F_,T_,F_,F_,F_,F_,F_] HT_ ?_
                    refine pU 6 (some 100) #[T_,T_,T_,T_,F_,T_,T_,F_,F_,F_,F_] HT_ ?_
                    refine pU 7 (some 101) #[T_,T_,T_,T_,F_,T_,T_,T_,F_,F_,F_] HT_ ?_
                    refine pU 8 (some 102) #[T_,T_,T_,T_,F_,T_,T_,T_,T_,F_,F_] HT_ ?_
                    refine tK 4 (some 98) #[T_,T_,T_,T_,T_,T_,T_,T_,T_,F_,F_] HT_ HW_ hHeld ?_
                    refine tK 9 (some 103) #[T_,T_,T_,T_,T_,T_,T_,T_,T_,T_,F_] HT_ HW_ hHeld ?_
                    refine pU 10 (some 104) #[T_,T_,T_,T_,T_,T_,T_,T_,T_,T_,T_] HT_ ?_
                    refine done_ (done_of HT_.out (by kernel_rfl)) ?_
                    try go_wp2
                    go_roundg kj27
                    case measure => have := HJ2.out; have := HK2.out; have := HJ10.out; have := HJ13.out; have := HJ27.out; omega
                    case rel => exact ⟨(x5_2), (wrap64 (x6_2 + 1)), (wrap64 (x7_2 + 1)), eY, eY, H', ⟨by have := HJ2.out; have := HK2.out; have := HJ10.out; have := HJ13.out; have := HJ27.out; omega⟩, ⟨qR HO_5.out⟩, ⟨qH⟩⟩
                   ·rw [if_neg c46] at H
                    have c46b0 : (((rd_T49 l0 x6_2).f1).toList == ((rd_T49 l1 x7_2).f1).toList) = false := beq_eq_false_iff_ne.mpr c46
                    have c46b1 : (((rd_T49 l0 x6_2).f1).toList != ((rd_T49 l1 x7_2).f1).toList) = true := bne_iff_ne.mpr c46
                    by_cases c48 : x5_2.length < 3518437208883
                    ·rw [if_pos c48] at H
                     have LMc48 := Aside0.mk c48
                     clear c48
                     obtain ⟨y282, hy282⟩ : ∃ y_ : List (S45), y_ = (x5_2 ++ [(⟨false, (rd_T49 l1 x7_2).f0, (rd_T49 l1 x7_2).f1⟩ : S45)]) := ⟨_, rfl⟩
                     replace H : (armadaref05_Diff.l0 kj27 l0 l1 y282 (wrap64 (x6_2 + 1)) (wrap64 (x7_2 + 1))) = some r := by first | (rw [hy282]; with_reducible exact H) | (have H2_ := (Option.bind_some _ _).symm.trans H; rw [hy282]; with_reducible exact H2_) | (have H2_ := (Option.bind_some _ _).symm.trans H; with_reducible exact H2_) | with_reducible exact H | (rw [hy282]; exact H) | exact H
                     have Ny282 := Aside0.mk hy282
                     clear hy282
                     have H' := Aside0.mk H
                     clear H
                     try go_wp2
                     have n0_ := Aside0.mk (Kd.R_drew HO_5.out)
                     have n1_ := Aside0.mk (yD_ HB.out)
                     clear HO_5
                     clear HB
                     have HO_5 := n0_
                     have HB := n1_
                     clear n0_ n1_
                     have p278 : 0 ≤ (x6_2 : Int) := of_decide_eq_true aS
                     have q278 : x6_2 < (l0.length : Int) := of_decide_eq_true aS
                     obtain ⟨ad278, e278, hx278_0, hx278_1⟩ := at_T49 HR0.out x6_2 p278 q278
                     have hw278_1 := hx278_1
                     have hw278_0 := hx278_0
                     cases e278
                     replace hx278_0 := (HB.out.cell (World.block_lt_of_cell? w _ hx278_0)).trans hx278_0
                     replace hx278_1 := (HB.out.cell (World.block_lt_of_cell? w _ hx278_1)).trans hx278_1
                     replace p278 := eq_true p278
                     replace q278 := eq_true q278
                     have p279 : 0 ≤ (x7_2 : Int) := of_decide_eq_true aS
                     have q279 : x7_2 < (l1.length : Int) := of_decide_eq_true aS
                     obtain ⟨ad279, e279, hx279_0, hx279_1⟩ := at_T49 HR1.out x7_2 p279 q279
                     have hw279_1 := hx279_1
                     have hw279_0 := hx279_0
                     cases e279
                     replace hx279_0 := (HB.out.cell (World.block_lt_of_cell? w _ hx279_0)).trans hx279_0
                     replace hx279_1 := (HB.out.cell (World.block_lt_of_cell? w _ hx279_1)).trans hx279_1
                     replace p279 := eq_true p279
                     replace q279 := eq_true q279
                     refine start_ (n := 11) (S := fun w' => w'.cell? (ad278.add ((x6_2).toNat * 2)) = some (.string ((rd_T49 l0 x6_2).f0)) ∧ w'.cell? ⟨(ad278.add ((x6_2).toNat * 2)).block, (ad278.add ((x6_2).toNat * 2)).off + 1, none⟩ = some (.string ((rd_T49 l0 x6_2).f1)) ∧ w'.cell? (ad279.add ((x7_2).toNat * 2)) = some (.string ((rd_T49 l1 x7_2).f0)) ∧ w'.cell? ⟨(ad279.add ((x7_2).toNat * 2)).block, (ad279.add ((x7_2).toNat * 2)).off + 1, none⟩ = some (.string ((rd_T49 l1 x7_2).f1))) (ds := []) #[F_,F_,F_,F_,F_,F_,F_,F_,F_,F_,F_] (by kernel_rfl) rfl rfl ⟨((HB.out.cell (World.block_lt_of_cell? w _ hw278_0)).trans hw278_0), ((HB.out.cell (World.block_lt_of_cell? w _ hw278_1)).trans hw278_1), ((HB.out.cell (World.block_lt_of_cell? w _ hw279_0)).trans hw279_0), ((HB.out.cell (World.block_lt_of_cell? w _ hw279_1)).trans hw279_1)⟩ (fun hHeld => ?_); refine with_tabW armadaref05_Diff.tab13 armadaref05_Diff.bits13 (fun HT_ HW_ => ?_)
                     generalize wc.drew = w49 at HO_5 HB hx278_0 hx278_1 hx279_0 hx279_1 hHeld ⊢
                     refine pU 0 (some 94) #[T_,F_,F_,F_,F_,F_,F_,F_,F_,F_,F_] HT_ ?_
                     refine pU 1 (some 95) #[T_,T_,F_,F_,F_,F_,F_,F_,F_,F_,F_] HT_ ?_
                     refine pU 2 (some 96) #[T_,T_,T_,F_,F_,F_,F_,F_,F_,F_,F_] HT_ ?_
                     refine pU 3 (some 97) #[T_,T_,T_,T_,F_,F_,F_,F_,F_,F_,F_] HT_ ?_
                     refine pU 5 (some 99) #[T_,T_,T_,T_,F_,T_,F_,F_,F_,F_,F_] HT_ ?_
                     refine pU 6 (some 100) #[T_,T_,T_,T_,F_,T_,T_,F_,F_,F_,F_] HT_ ?_
                     refine pU 7 (some 101) #[T_,T_,T_,T_,F_,T_,T_,T_,F_,F_,F_] HT_ ?_
                     refine pU 8 (some 102) #[T_,T_,T_,T_,F_,T_,T_,T_,T_,F_,F_] HT_ ?_
                     refine tK 4 (some 98) #[T_,T_,T_,T_,T_,T_,T_,T_,T_,F_,F_] HT_ HW_ hHeld ?_
                     refine tK 9 (some 103) #[T_,T_,T_,T_,T_,T_,T_,T_,T_,T_,F_] HT_ HW_ hHeld ?_
                     refine pU 10 (some 104) #[T_,T_,T_,T_,T_,T_,T_,T_,T_,T_,T_] HT_ ?_
                     refine done_ (done_of HT_.out (by kernel_rfl)) ?_
                     try go_wp2
                     have n0_ := Aside0.mk (Kd.R_drew HO_5.out)
                     have n1_ := Aside0.mk (yD_ HB.out)
                     clear HO_5
                     clear HB
                     have HO_5 := n0_
                     have HB := n1_
                     clear n0_ n1_
                     have p280 : 0 ≤ (x7_2 : Int) := of_decide_eq_true aS
                     have q280 : x7_2 < (l1.length : Int) := of_decide_eq_true aS
                     obtain ⟨ad280, e280, hx280_0, hx280_1⟩ := at_T49 HR1.out x7_2 p280 q280
                     have hw280_1 := hx280_1
                     have hw280_0 := hx280_0
                     obtain rfl : ad279 = ad280 := (by injection e280)
                     replace hx280_0 := (HB.out.cell (World.block_lt_of_cell? w _ hx280_0)).trans hx280_0
                     replace hx280_1 := (HB.out.cell (World.block_lt_of_cell? w _ hx280_1)).trans hx280_1
                     replace p280 := eq_true p280
                     replace q280 := eq_true q280
                     have p281 : 0 ≤ (x7_2 : Int) := of_decide_eq_true aS
                     have q281 : x7_2 < (l1.length : Int) := of_decide_eq_true aS
                     obtain ⟨ad281, e281, hx281_0, hx281_1⟩ := at_T49 HR1.out x7_2 p281 q281
                     have hw281_1 := hx281_1
                     have hw281_0 := hx281_0
                     obtain rfl : ad279 = ad281 := (by injection e281)
                     replace hx281_0 := (HB.out.cell (World.block_lt_of_cell? w _ hx281_0)).trans hx281_0
                     replace hx281_1 := (HB.out.cell (World.block_lt_of_cell? w _ hx281_1)).trans hx281_1
                     replace p281 := eq_true p281
                     replace q281 := eq_true q281
                     refine start_ (n := 15) (S := fun w' => w'.cell? (ad279.add ((x7_2).toNat * 2)) = some (.string ((rd_T49 l1 x7_2).f0)) ∧ w'.cell? ⟨(ad279.add ((x7_2).toNat * 2)).block, (ad279.add ((x7_2).toNat * 2)).off + 1, none⟩ = some (.string ((rd_T49 l1 x7_2).f1)) ∧ w'.cell? (ad279.add ((x7_2).toNat * 2)) = some (.string ((rd_T49 l1 x7_2).f0)) ∧ w'.cell? ⟨(ad279.add ((x7_2).toNat * 2)).block, (ad279.add ((x7_2).toNat * 2)).off + 1, none⟩ = some (.string ((rd_T49 l1 x7_2).f1))) (ds := []) #[F_,F_,F_,F_,F_,F_,F_,F_,F_,F_,F_,F_,F_,F_,F_] (by kernel_rfl) rfl rfl ⟨((HB.out.cell (World.block_lt_of_cell? w _ hw280_0)).trans hw280_0), ((HB.out.cell (World.block_lt_of_cell? w _ hw280_1)).trans hw280_1), ((HB.out.cell (World.block_lt_of_cell? w _ hw281_0)).trans hw281_0), ((HB.out.cell (World.block_lt_of_cell? w _ hw281_1)).trans hw281_1)⟩ (fun hHeld => ?_); refine with_tabW armadaref05_Diff.tab14 armadaref05_Diff.bits14 (fun HT_ HW_ => ?_)
                     generalize w49.drew = w50 at HO_5 HB hx280_0 hx280_1 hx281_0 hx281_1 hHeld ⊢
                     refine pU 0 (some 105) #[T_,F_,F_,F_,F_,F_,F_,F_,F_,F_,F_,F_,F_,F_,F_] HT_ ?_
                     refine pU 1 (some 106) #[T_,T_,F_,F_,F_,F_,F_,F_,F_,F_,F_,F_,F_,F_,F_] HT_ ?_
                     refine pU 2 (some 107) #[T_,T_,T_,F_,F_,F_,F_,F_,F_,F_,F_,F_,F_,F_,F_] HT_ ?_
                     refine pU 3 (some 108) #[T_,T_,T_,T_,F_,F_,F_,F_,F_,F_,F_,F_,F_,F_,F_] HT_ ?_
                     refine pU 4 (some 109) #[T_,T_,T_,T_,T_,F_,F_,F_,F_,F_,F_,F_,F_,F_,F_] HT_ ?_
                     refine pU 6 (some 111) #[T_,T_,T_,T_,T_,F_,T_,F_,F_,F_,F_,F_,F_,F_,F_] HT_ ?_
                     refine pU 7 (some 112) #[T_,T_,T_,T_,T_,F_,T_,T_,F_,F_,F_,F_,F_,F_,F_] HT_ ?_
                     refine pU 8 (some 113) #[T_,T_,T_,T_,T_,F_,T_,T_,T_,F_,F_,F_,F_,F_,F_] HT_ ?_
                     refine pU 9 (some 114) #[T_,T_,T_,T_,T_,F_,T_,T_,T_,T_,F_,F_,F_,F_,F_] HT_ ?_
                     refine tK 5 (some 110) #[T_,T_,T_,T_,T_,T_,T_,T_,T_,T_,F_,F_,F_,F_,F_] HT_ HW_ hHeld ?_
                     refine tK 10 (some 115) #[T_,T_,T_,T_,T_,T_,T_,T_,T_,T_,T_,F_,F_,F_,F_] HT_ HW_ hHeld ?_
                     refine pU 11 (some 116) #[T_,T_,T_,T_,T_,T_,T_,T_,T_,T_,T_,T_,F_,F_,F_] HT_ ?_
                     refine oN 12 (some 117) #[T_,T_,T_,T_,T_,T_,T_,T_,T_,T_,T_,T_,T_,F_,F_] HT_ (fun K hK => ?_)
                     refine value_ (w1 := ?_) (v := ?_) (by rfl) rfl ?_ ?_
                     rotate_left 2
                     ·go_simp
                      constructor
                      ·rfl
                      ·rfl
                     refine hK.out _ _ ⟨(World.cell?_alloc_lt _ _ _ (World.block_lt_of_cell? _ _ (((HB.out.cell (World.block_lt_of_cell? w _ hw280_0)).trans hw280_0)))).trans (((HB.out.cell (World.block_lt_of_cell? w _ hw280_0)).trans hw280_0)), (World.cell?_alloc_lt _ _ _ (World.block_lt_of_cell? _ _ (((HB.out.cell (World.block_lt_of_cell? w _ hw280_1)).trans hw280_1)))).trans (((HB.out.cell (World.block_lt_of_cell? w _ hw280_1)).trans hw280_1)), (World.cell?_alloc_lt _ _ _ (World.block_lt_of_cell? _ _ (((HB.out.cell (World.block_lt_of_cell? w _ hw281_0)).trans hw281_0)))).trans (((HB.out.cell (World.block_lt_of_cell? w _ hw281_0)).trans hw281_0)), (World.cell?_alloc_lt _ _ _ (World.block_lt_of_cell? _ _ (((HB.out.cell (World.block_lt_of_cell? w _ hw281_1)).trans hw281_1)))).trans (((HB.out.cell (World.block_lt_of_cell? w _ hw281_1)).trans hw281_1))⟩ (fun hHeld => ?_)
                     clear hK K
                     refine nS (some 117) ?_
                     refine oN 13 (some 118) #[T_,T_,T_,T_,T_,T_,T_,T_,T_,T_,T_,T_,T_,T_,F_] HT_ (fun K hK => ?_)
                     refine Kd.R_append_step k45 (w0 := w) w.heap.size (by rfl) (.tmp 105) (.tmp 117) 30 45 (.agg #[(.bool false), (.string ⟨#[]⟩), (.string ⟨#[]⟩)]) 40 rfl Tryd.underlying30 info45 rfl (by decide) (by omega) u5 x5_2 (⟨false, (rd_T49 l1 x7_2).f0, (rd_T49 l1 x7_2).f1⟩ : S45) [.bool false, .string ((rd_T49 l1 x7_2).f0), .string ((rd_T49 l1 x7_2).f1)] (fun _ => True) (fun _ => False) rfl rfl ?aP (fun _ hk => hk.elim) ?aF ?aO ?aB ?aS ?aL ?_
                     (case aP => exact k45_mkM _ _ _ (⟨false, (rd_T49 l1 x7_2).f0, (rd_T49 l1 x7_2).f1⟩ : S45))
                     (case aB => exact qH)
                     (case aF => exact (fun _ _ => trivial))
                     (case aO => exact (qR HO_5.out))
                     (case aS => exact (below_size qH))
                     (case aL => have := LMc48.out; omega)
                     intro v283 w51 ho hb hg hat
                     rw [← Ny282.out] at ho
                     have n0_ := Aside0.mk (hb)
                     have n1_ := Aside0.mk (ho)
                     clear HB
                     clear HO_5
                     have HB := n0_
                     have HO284 := n1_
                     clear n0_ n1_
                     clear ho hb hg hat
                     refine hK.out _ _ ⟨((HB.out.cell (World.block_lt_of_cell? w _ hw280_0)).trans hw280_0), ((HB.out.cell (World.block_lt_of_cell? w _ hw280_1)).trans hw280_1), ((HB.out.cell (World.block_lt_of_cell? w _ hw281_0)).trans hw281_0), ((HB.out.cell (World.block_lt_of_cell? w _ hw281_1)).trans hw281_1)⟩ (fun hHeld => ?_)
                     clear hK K
                     refine nS (some 118) ?_
                     refine pU 14 (some 5) #[T_,T_,T_,T_,T_,T_,T_,T_,T_,T_,T_,T_,T_,T_,T_] HT_ ?_
                     refine done_ (done_of HT_.out (by kernel_rfl)) ?_
                     try go_wp2
                     go_roundg kj27
                     case measure => have := HJ2.out; have := HK2.out; have := HJ10.out; have := HJ13.out; have := HJ27.out; omega
                     case rel => exact ⟨(y282), (wrap64 (x6_2 + 1)), (wrap64 (x7_2 + 1)), eY, eY, H', ⟨by have := HJ2.out; have := HK2.out; have := HJ10.out; have := HJ13.out; have := HJ27.out; omega⟩, ⟨qR HO284.out⟩, ⟨qH⟩⟩
                    ·rw [if_neg c48] at H
                     exact absurd H (by simp)
                  ·rw [if_neg c45] at H
                   exact absurd H (by simp)
                 ·rw [if_neg c44] at H
                  exact absurd H (by simp)
                ·rw [if_neg c43] at H
                 exact absurd H (by simp)
               ·rw [if_neg c42] at H
                exact absurd H (by simp)
        ·replace c13 := Bool.eq_false_iff.mpr c13
         subst c13
         rw [if_neg nF_] at H
         obtain rfl := Option.some.inj H
         go_wp2
         go_ret
         exact ⟨_, eX, qR HO_5.out, qH⟩
end
end Go.Proofs.YtnhhbmekjoanbaaDoor.P
