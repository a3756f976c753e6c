-- PRINTED by print.py (a twelfth state) out of the translation. Not trusted: Lean checks it.
import Derived.Test.YtkejacgedipoeaaPx0
import Derived.Test.YtkejacgedipoeaaPx30
import Derived.Test.YtkejacgedipoeaaPx31
namespace Go.Proofs.Ytkejacgedipoeaa.P
open Go.RowKit Go.Proofs.YtkejacgedipoeaaW.PrintWords Go.Proofs.YtkejacgedipoeaaW.PrintLast Go.Proofs.YtkejacgedipoeaaW.PrintMore
attribute [local go_sem] max2_int min2_int max_two min_two max_three min_three max_four min_four   -- for this text's walks alone
set_option linter.unusedVariables false
set_option linter.unusedSimpArgs false

/-! ### armadaref12_rolled: function 24 -/
mutual
def armadaref12_rolled.l0 : Nat → List Int → List Int → List Int → Int → Option (List Int)
  | 0, _, _, _, _ => none
  | k + 1, x0, x2, x7, x8 => if x8 < 64 then (if 0 ≤ (wrap64 (x8 - 15)) then (if (wrap64 (x8 - 15)) < (x7.length : Int) then (if 0 ≤ (wrap64 (x8 - 2)) then (if (wrap64 (x8 - 2)) < (x7.length : Int) then ((armadaref12_turn.f (rd x7 (wrap64 (x8 - 15))) 7).bind fun t137 => ((armadaref12_turn.f (rd x7 (wrap64 (x8 - 15))) 18).bind fun t138 => ((armadaref12_turn.f (rd x7 (wrap64 (x8 - 2))) 17).bind fun t139 => ((armadaref12_turn.f (rd x7 (wrap64 (x8 - 2))) 19).bind fun t140 => (if 0 ≤ (wrap64 (x8 - 7)) then (if (wrap64 (x8 - 7)) < (x7.length : Int) then (if 0 ≤ (wrap64 (x8 - 16)) then (if (wrap64 (x8 - 16)) < (x7.length : Int) then ((armadaref12_mask.f (wrap64 ((wrap64 ((wrap64 ((Go.bits .xor .i64 (Go.bits .xor .i64 t139 t140) ((rd x7 (wrap64 (x8 - 2))) / 1024)) + (rd x7 (wrap64 (x8 - 7))))) + (Go.bits .xor .i64 (Go.bits .xor .i64 t137 t138) ((rd x7 (wrap64 (x8 - 15))) / 8)))) + (rd x7 (wrap64 (x8 - 16)))))).bind fun t143 => (if x7.length < 17592186044416 then (armadaref12_rolled.l0 k x0 x2 (x7 ++ [t143]) (wrap64 (x8 + 1))) else (none))) else (none)) else (none)) else (none)) else (none)))))) else (none)) else (none)) else (none)) else (none)) else ((some (([] : List Int) : List Int)).bind fun y147 => (if y147.length + x0.length < 17592186044416 then (armadaref12_rolled.l1 k x0 x2 x7 (y147 ++ x0) 0) else (none)))
def armadaref12_rolled.l1 : Nat → List Int → List Int → List Int → List Int → Int → Option (List Int)
  | 0, _, _, _, _, _ => none
  | k + 1, x0, x2, x7, x13, x14 => if x14 < 64 then (if 4 < (x13.length : Int) then (if 0 < (x13.length : Int) then (if 7 < (x13.length : Int) then ((armadaref12_turn.f (rd x13 4) 6).bind fun t156 => ((armadaref12_turn.f (rd x13 4) 11).bind fun t157 => ((armadaref12_turn.f (rd x13 4) 25).bind fun t158 => (if 5 < (x13.length : Int) then (if 6 < (x13.length : Int) then (if 0 ≤ x14 then (if x14 < (x2.length : Int) then (if x14 < (x7.length : Int) then ((armadaref12_mask.f (wrap64 ((wrap64 ((wrap64 ((wrap64 ((rd x13 7) + (Go.bits .xor .i64 (Go.bits .xor .i64 t156 t157) t158))) + (Go.bits .xor .i64 (Go.bits .and .i64 (rd x13 4) (rd x13 5)) (Go.bits .and .i64 (wrap64 (4294967295 - (rd x13 4))) (rd x13 6))))) + (rd x2 x14))) + (rd x7 x14)))).bind fun t163 => ((armadaref12_turn.f (rd x13 0) 2).bind fun t164 => ((armadaref12_turn.f (rd x13 0) 13).bind fun t165 => ((armadaref12_turn.f (rd x13 0) 22).bind fun t166 => (if 1 < (x13.length : Int) then (if 2 < (x13.length : Int) then ((armadaref12_mask.f (wrap64 ((Go.bits .xor .i64 (Go.bits .xor .i64 t164 t165) t166) + (Go.bits .xor .i64 (Go.bits .xor .i64 (Go.bits .and .i64 (rd x13 0) (rd x13 1)) (Go.bits .and .i64 (rd x13 0) (rd x13 2))) (Go.bits .and .i64 (rd x13 1) (rd x13 2)))))).bind fun t171 => ((armadaref12_mask.f (wrap64 (t163 + t171))).bind fun t172 => (if 3 < (x13.length : Int) then ((armadaref12_mask.f (wrap64 ((rd x13 3) + t163))).bind fun t177 => (armadaref12_rolled.l1 k x0 x2 x7 (([t172, rd x13 0, rd x13 1, rd x13 2, t177, rd x13 4, rd x13 5, rd x13 6] : List Int)) (wrap64 (x14 + 1)))) else (none)))) else (none)) else (none)))))) else (none)) else (none)) else (none)) else (none)) else (none))))) else (none)) else (none)) else (none)) else (armadaref12_rolled.l2 k x0 x13 ([] : List Int) 0)
def armadaref12_rolled.l2 : Nat → List Int → List Int → List Int → Int → Option (List Int)
  | 0, _, _, _, _ => none
  | k + 1, x0, x13, x19, x20 => if x20 < 8 then (if 0 ≤ x20 then (if x20 < (x0.length : Int) then (if x20 < (x13.length : Int) then ((armadaref12_mask.f (wrap64 ((rd x0 x20) + (rd x13 x20)))).bind fun t186 => (if x19.length < 17592186044416 then (armadaref12_rolled.l2 k x0 x13 (x19 ++ [t186]) (wrap64 (x20 + 1))) else (none))) else (none)) else (none)) else (none)) else (some x19)
end
def armadaref12_rolled.f (k : Nat) (l0 : List Int) (l1 : List Int) (l2 : List Int) : Option (List Int) := (some (([] : List Int) : List Int)).bind fun y129 => (if y129.length + l1.length < 17592186044416 then (armadaref12_rolled.l0 k l0 l2 (y129 ++ l1) 16) else (none))
theorem armadaref12_rolled.mono_l : ∀ k, (∀ y0 y1 y2 y3, LeO (armadaref12_rolled.l0 k y0 y1 y2 y3) (armadaref12_rolled.l0 (k + 1) y0 y1 y2 y3)) ∧ (∀ y0 y1 y2 y3 y4, LeO (armadaref12_rolled.l1 k y0 y1 y2 y3 y4) (armadaref12_rolled.l1 (k + 1) y0 y1 y2 y3 y4)) ∧ (∀ y0 y1 y2 y3, LeO (armadaref12_rolled.l2 k y0 y1 y2 y3) (armadaref12_rolled.l2 (k + 1) y0 y1 y2 y3))
  | 0 => ⟨fun _ _ _ _ r h => by simp [armadaref12_rolled.l0] at h, fun _ _ _ _ _ r h => by simp [armadaref12_rolled.l1] at h, fun _ _ _ _ r h => by simp [armadaref12_rolled.l2] at h⟩
  | k + 1 => by
    obtain ⟨ih0, ih1, ih2⟩ := armadaref12_rolled.mono_l k
    refine ⟨?_, ?_, ?_⟩
    · intro y0 y1 y2 y3
      unfold armadaref12_rolled.l0
      repeat' first
      | (with_reducible exact ih0 _ _ _ _)
      | (with_reducible exact ih1 _ _ _ _ _)
      | (with_reducible exact ih2 _ _ _ _)
      | (with_reducible exact LeO.refl _)
      | (with_reducible exact LeO.none _)
      | (with_reducible refine LeO.ite ?_ ?_)
      | (with_reducible refine LeO.bind ?_ (fun _ => ?_))
      | exact ih0 _ _ _ _
      | exact ih1 _ _ _ _ _
      | exact ih2 _ _ _ _
      | exact LeO.none _
      | refine LeO.ite ?_ ?_
      | refine LeO.bind ?_ (fun _ => ?_)
    · intro y0 y1 y2 y3 y4
      unfold armadaref12_rolled.l1
      repeat' first
      | (with_reducible exact ih0 _ _ _ _)
      | (with_reducible exact ih1 _ _ _ _ _)
      | (with_reducible exact ih2 _ _ _ _)
      | (with_reducible exact LeO.refl _)
      | (with_reducible exact LeO.none _)
      | (with_reducible refine LeO.ite ?_ ?_)
      | (with_reducible refine LeO.bind ?_ (fun _ => ?_))
      | exact ih0 _ _ _ _
      | exact ih1 _ _ _ _ _
      | exact ih2 _ _ _ _
      | exact LeO.none _
      | refine LeO.ite ?_ ?_
      | refine LeO.bind ?_ (fun _ => ?_)
    · intro y0 y1 y2 y3
      unfold armadaref12_rolled.l2
      repeat' first
      | (with_reducible exact ih0 _ _ _ _)
      | (with_reducible exact ih1 _ _ _ _ _)
      | (with_reducible exact ih2 _ _ _ _)
      | (with_reducible exact LeO.refl _)
      | (with_reducible exact LeO.none _)
      | (with_reducible refine LeO.ite ?_ ?_)
      | (with_reducible refine LeO.bind ?_ (fun _ => ?_))
      | exact ih0 _ _ _ _
      | exact ih1 _ _ _ _ _
      | exact ih2 _ _ _ _
      | exact LeO.none _
      | refine LeO.ite ?_ ?_
      | refine LeO.bind ?_ (fun _ => ?_)
theorem armadaref12_rolled.mono : ∀ a0 a1 a2 k, LeO (armadaref12_rolled.f k a0 a1 a2) (armadaref12_rolled.f (k + 1) a0 a1 a2) := by
  intro a0 a1 a2 k
  obtain ⟨ih0, ih1, ih2⟩ := armadaref12_rolled.mono_l k
  unfold armadaref12_rolled.f
  repeat' first
      | (with_reducible exact ih0 _ _ _ _)
      | (with_reducible exact ih1 _ _ _ _ _)
      | (with_reducible exact ih2 _ _ _ _)
      | (with_reducible exact LeO.refl _)
      | (with_reducible exact LeO.none _)
      | (with_reducible refine LeO.ite ?_ ?_)
      | (with_reducible refine LeO.bind ?_ (fun _ => ?_))
      | exact ih0 _ _ _ _
      | exact ih1 _ _ _ _ _
      | exact ih2 _ _ _ _
      | exact LeO.none _
      | refine LeO.ite ?_ ?_
      | refine LeO.bind ?_ (fun _ => ?_)
def armadaref12_rolled.T9 : Bool × List (List Nat × List Nat) := (true, [([], []), ([], []), ([], []), ([], []), ([3], [3]), ([2, 4], [2, 4]), ([5], [5]), ([1, 6], [1, 6]), ([], []), ([7, 8], [7, 8]), ([], []), ([], []), ([11], [11]), ([10, 12], [10, 12]), ([13], [13]), ([9, 14], [9, 14]), ([15], [15]), ([16], [16]), ([0, 17, 16], [0, 17]), ([18, 18, 0, 1, 2, 3, 4, 5, 6, 7, 8, 9, 10, 11, 12, 13, 14, 15, 16, 17, 18], [0, 2, 10, 18])])
def armadaref12_rolled.B9 : List Nat := [0, 0, 0, 0, 8, 28, 60, 126, 0, 510, 0, 0, 2048, 7168, 15360, 32766, 65534, 131070, 262143, 524287]
theorem armadaref12_rolled.tab9 : rtab .any (opsOf Try.f24 9) = armadaref12_rolled.T9 := by kernel_rfl
theorem armadaref12_rolled.bits9 : waitsOk armadaref12_rolled.T9.2 armadaref12_rolled.B9 = true := by kernel_rfl
def armadaref12_rolled.T16 : Bool × List (List Nat × List Nat) := (true, [([], []), ([0], [0]), ([1], [1]), ([], []), ([3], [3]), ([], []), ([5, 4], [5]), ([4, 6], [4, 6]), ([], []), ([8, 6], [8]), ([7, 9], [7, 9]), ([2, 10], [2, 10]), ([], []), ([], []), ([13], [13]), ([14], [14]), ([12, 15], [12, 15]), ([], []), ([17], [17]), ([], []), ([19], [19]), ([20], [20]), ([18, 21], [18, 21]), ([16, 22], [16, 22]), ([11, 23], [11, 23]), ([], []), ([], []), ([25, 26], [25, 26]), ([27], [27]), ([24, 28], [24, 28]), ([], []), ([], []), ([30, 31], [30, 31]), ([32], [32]), ([29, 33], [29, 33]), ([34, 9], [34]), ([35, 35, 0, 1, 2, 3, 4, 5, 6, 7, 8, 9, 10, 11, 12, 13, 14, 15, 16, 17, 18, 19, 20, 21, 22, 23, 24, 25, 26, 27, 28, 29, 30, 31, 32, 33, 34, 35], [35])])
def armadaref12_rolled.B16 : List Nat := [0, 1, 3, 0, 8, 0, 56, 120, 0, 376, 1016, 2047, 0, 0, 8192, 24576, 61440, 0, 131072, 0, 524288, 1572864, 4063232, 8384512, 16777215, 0, 0, 100663296, 234881024, 536870911, 0, 0, 3221225472, 7516192768, 17179869183, 34359738367, 68719476735]
theorem armadaref12_rolled.tab16 : rtab .any (opsOf Try.f24 16) = armadaref12_rolled.T16 := by kernel_rfl
theorem armadaref12_rolled.bits16 : waitsOk armadaref12_rolled.T16.2 armadaref12_rolled.B16 = true := by kernel_rfl
def armadaref12_rolled.T17 : Bool × List (List Nat × List Nat) := (true, [([], []), ([0], [0]), ([], []), ([2, 1], [2]), ([1, 3], [1, 3]), ([], []), ([5, 3], [5]), ([4, 6], [4, 6]), ([], []), ([], []), ([9], [9]), ([10], [10]), ([8, 11], [8, 11]), ([], []), ([], []), ([14], [14]), ([15], [15]), ([13, 16], [13, 16]), ([12, 17], [12, 17]), ([], []), ([19], [19]), ([20], [20]), ([], []), ([22], [22]), ([23], [23]), ([21, 24], [21, 24]), ([18, 25], [18, 25]), ([7, 26], [7, 26]), ([27, 6], [27]), ([28, 28, 0, 1, 2, 3, 4, 5, 6, 7, 8, 9, 10, 11, 12, 13, 14, 15, 16, 17, 18, 19, 20, 21, 22, 23, 24, 25, 26, 27, 28], [28])])
def armadaref12_rolled.B17 : List Nat := [0, 1, 0, 7, 15, 0, 47, 127, 0, 0, 512, 1536, 3840, 0, 0, 16384, 49152, 122880, 261888, 0, 524288, 1572864, 0, 4194304, 12582912, 33030144, 67108608, 134217727, 268435455, 536870911]
theorem armadaref12_rolled.tab17 : rtab .any (opsOf Try.f24 17) = armadaref12_rolled.T17 := by kernel_rfl
theorem armadaref12_rolled.bits17 : waitsOk armadaref12_rolled.T17.2 armadaref12_rolled.B17 = true := by kernel_rfl
def armadaref12_rolled.T18 : Bool × List (List Nat × List Nat) := (true, [([], []), ([], []), ([0, 1], [0, 1]), ([2], [2]), ([], []), ([4], [4]), ([5], [5]), ([], []), ([7], [7]), ([8], [8]), ([], []), ([10], [10]), ([11], [11]), ([], []), ([13], [13]), ([14], [14]), ([], []), ([15, 16], [15, 16]), ([17, 3], [17]), ([], []), ([19], [19]), ([20], [20]), ([], []), ([22], [22]), ([23], [23]), ([], []), ([25], [25]), ([26], [26]), ([3, 6, 9, 12, 18, 21, 24, 27], [3, 6, 9, 12, 18, 21, 24, 27]), ([28, 18, 0, 1, 2, 3, 4, 5, 6, 7, 8, 9, 10, 11, 12, 13, 14, 15, 16, 17, 18, 19, 20, 21, 22, 23, 24, 25, 26, 27, 28], [4, 7, 10, 13, 19, 22, 25, 28])])
def armadaref12_rolled.B18 : List Nat := [0, 0, 3, 7, 0, 16, 48, 0, 128, 384, 0, 1024, 3072, 0, 8192, 24576, 0, 122880, 253967, 0, 524288, 1572864, 0, 4194304, 12582912, 0, 33554432, 100663296, 268435455, 536870911]
theorem armadaref12_rolled.tab18 : rtab .any (opsOf Try.f24 18) = armadaref12_rolled.T18 := by kernel_rfl
theorem armadaref12_rolled.bits18 : waitsOk armadaref12_rolled.T18.2 armadaref12_rolled.B18 = true := by kernel_rfl
def armadaref12_rolled.T23 : Bool × List (List Nat × List Nat) := (true, [([], []), ([], []), ([], []), ([1, 2], [1, 2]), ([3], [3]), ([], []), ([], []), ([5, 6], [5, 6]), ([7], [7]), ([4, 8], [4, 8]), ([9], [9]), ([10], [10]), ([0, 11, 10], [0, 11]), ([12, 12, 0, 1, 2, 3, 4, 5, 6, 7, 8, 9, 10, 11, 12], [0, 12])])
def armadaref12_rolled.B23 : List Nat := [0, 0, 0, 6, 14, 0, 0, 96, 224, 510, 1022, 2046, 4095, 8191]
theorem armadaref12_rolled.tab23 : rtab .any (opsOf Try.f24 23) = armadaref12_rolled.T23 := by kernel_rfl
theorem armadaref12_rolled.bits23 : waitsOk armadaref12_rolled.T23.2 armadaref12_rolled.B23 = true := by kernel_rfl
set_option maxHeartbeats 8000000 in
set_option maxRecDepth 100000 in
theorem armadaref12_rolled.calls (k : Nat) (A0 : Option Addr) (c0 : Nat) (l0 : List Int) (A1 : Option Addr) (c1 : Nat) (l1 : List Int) (A2 : Option Addr) (c2 : Nat) (l2 : List Int) (r : List Int) (w : World) (hr0 : Kd.C (Kd.int .i64) w A0 l0.length l0) (hc0 : l0.length ≤ c0) (hr1 : Kd.C (Kd.int .i64) w A1 l1.length l1) (hc1 : l1.length ≤ c1) (hr2 : Kd.C (Kd.int .i64) w A2 l2.length l2) (hc2 : l2.length ≤ c2) (h : armadaref12_rolled.f k l0 l1 l2 = some r) :
    Calls Try.prog 24 #[.slice A0 l0.length c0, .slice A1 l1.length c1, .slice A2 l2.length c2] w fun e w' => ∃ v0_ : Value, e = .returned (v0_) ∧ Kd.R (Kd.int .i64) 3 w' w.heap.size (fun _ => True) v0_ r ∧ Below w.heap.size w w' := by
  have HR0 := Aside0.mk hr0
  have HC0 := Aside0.mk hc0
  clear hr0 hc0
  have HR1 := Aside0.mk hr1
  have HC1 := Aside0.mk hc1
  clear hr1 hc1
  have HR2 := Aside0.mk hr2
  have HC2 := Aside0.mk hc2
  clear hr2 hc2
  have HB := Aside0.mk (Below.refl w.heap.size w)
  have H : ((some (([] : List Int) : List Int)).bind fun y129 => (if y129.length + l1.length < 17592186044416 then (armadaref12_rolled.l0 k l0 l2 (y129 ++ l1) 16) else (none))) = some r := h
  clear h
  obtain ⟨y129, hy129⟩ : ∃ y_ : List Int, y_ = (([] : List Int)) := ⟨_, rfl⟩
  replace H : (if y129.length + l1.length < 17592186044416 then (armadaref12_rolled.l0 k l0 l2 (y129 ++ l1) 16) else (none)) = some r := by first | (rw [hy129]; with_reducible exact H) | (have H2_ := (Option.bind_some _ _).symm.trans H; rw [hy129]; with_reducible exact H2_) | (have H2_ := (Option.bind_some _ _).symm.trans H; with_reducible exact H2_) | with_reducible exact H | (rw [hy129]; exact H) | exact H
  have Ny129 := Aside0.mk hy129
  clear hy129
  by_cases c4 : y129.length + l1.length < 17592186044416
  · rw [if_pos c4] at H
    have LMc4 := Aside0.mk c4
    clear c4
    obtain ⟨y132, hy132⟩ : ∃ y_ : List Int, y_ = (y129 ++ l1) := ⟨_, rfl⟩
    replace H : (armadaref12_rolled.l0 k l0 l2 y132 16) = some r := by first | (rw [hy132]; with_reducible exact H) | (have H2_ := (Option.bind_some _ _).symm.trans H; rw [hy132]; with_reducible exact H2_) | (have H2_ := (Option.bind_some _ _).symm.trans H; with_reducible exact H2_) | with_reducible exact H | (rw [hy132]; exact H) | exact H
    have Ny132 := Aside0.mk hy132
    clear hy132
    have H' := Aside0.mk H
    clear H
    go_enter Try.func24, Try.ntmps24
    go_wp2_with (first | ((with_reducible refine gate_dst (N := 21) rfl ?_); refine Kd.R_lit (Kd.int .i64) _ 3 ?hg (N := 21) ?hd (xs := ([] : List Int)) (inner := []) (ok := fun _ => True) (okp := fun _ => True) ?hr ?hp (fun _ hk => hk) trivial (Below.refl _ _) (Nat.le_refl _) (by simp) ?_; (case hd => rfl); (case hg => rfl); (case hr => first | (go_simp; done) | (go_simp; rfl)); (case hp => exact (Reps.none _ _)); intro v130 w5 ho6 hb hg_ hnew_; clear hg_ hnew_; (first | rw [← Ny129.out] at ho6 | (simp only [Int.reduceToNat] at ho6; rw [← Ny129.out] at ho6)); have n0_ := Aside0.mk (Kd.R_lower ho6 (below_size (by repeat (first | (with_reducible first | exact HB.out | apply below_alloc | apply pw_below_drewN | apply below_drew1) | exact HB.out)))); have n1_ := Aside0.mk (below_step (by repeat (first | (with_reducible first | exact HB.out | apply below_alloc | apply pw_below_drewN | apply below_drew1) | exact HB.out)) hb); clear HB; have HO131 := n0_; have HB := n1_; clear n0_ n1_; clear hb ho6) | ((with_reducible refine gate_builtin (b := .append) (xs := #[.tmp 21, .tmp 22]) rfl ?_); at_builtin; refine Kd.R_append_rows (Kd.int .i64) (w0 := w) w.heap.size rfl (.tmp 21) (.tmp 22) 29 3 (.int .i64 0) 8 rfl Try.underlying29 info3 rfl (by decide) (by omega) v130 y129 l1 _ _ _ (fun _ => True) (fun _ => False) rfl rfl ?aO ?aR (fun _ _ h => h) (fun _ h => h.elim) ?aF ?aB ?aS ?aL ?_; (case aR => repeat (first | exact (Kd.C_below HR1.out HB.out) | (with_reducible refine Kd.C_alloc ?_ _) | (with_reducible refine Kd.C_drewN ?_ _) | (with_reducible refine Kd.C_drew ?_))); (case aB => exact (by repeat (first | (with_reducible first | exact HB.out | apply below_alloc | apply pw_below_drewN | apply below_drew1) | exact HB.out))); (case aF => exact (fun _ _ => trivial)); (case aO => exact (by (with_reducible repeat (first | apply Kd.R_alloc | apply Kd.R_drewN | apply Kd.R_drew)); exact HO131.out)); (case aS => exact (below_size (by repeat (first | (with_reducible first | exact HB.out | apply below_alloc | apply pw_below_drewN | apply below_drew1) | exact HB.out)))); (case aL => have := LMc4.out; omega); intro v133 w7 ho hb hg hat; rw [← Ny132.out] at ho; have n0_ := Aside0.mk (hb); have n1_ := Aside0.mk (ho); clear HB; clear HO131; have HB := n0_; have HO134 := n1_; clear n0_ n1_; clear ho hb hg hat))
    go_loopg [7, 8] k (fun kq v7 v8 w' => ∃ (x7_1 : List Int) (x8_1 : Int), v8 = .int .i64 x8_1 ∧ Aside0 (armadaref12_rolled.l0 kq l0 l2 x7_1 x8_1 = some r) ∧ Aside0 (kq ≤ k) ∧ Aside0 (Kd.R (Kd.int .i64) 3 w' w.heap.size (fun _ => True) v7 x7_1) ∧ Aside0 (Below w.heap.size w w'))
    case atStart => exact ⟨(y132), (16), (by first | rfl | (simp; done) | (simp [*]; done)), H', ⟨Nat.le_refl _⟩, ⟨by (with_reducible repeat (first | apply Kd.R_alloc | apply Kd.R_drewN | apply Kd.R_drew)); exact HO134.out⟩, ⟨by repeat (first | (with_reducible first | exact HB.out | apply below_alloc | apply pw_below_drewN | apply below_drew1) | exact HB.out)⟩⟩
    case round =>
      clear H'
      try clear c1
      try clear c2
      try clear p2
      try clear c4
      obtain ⟨x7_1, x8_1, rfl, HA, HK1, HO_7, HB⟩ := hrel
      cases gk with
      | zero => exact absurd HA.out (by simp [armadaref12_rolled.l0])
      | succ k1 =>
        have H := HA.out
        clear HA
        simp only [armadaref12_rolled.l0] at H
        by_cases c8 : x8_1 < 64
        · rw [if_pos c8] at H
          have c8b0 : decide (x8_1 < 64) = true := decide_eq_true c8
          clear c8
          obtain ⟨ji9, hji9⟩ : ∃ j_ : Int, (wrap64 (x8_1 - 15)) = j_ := ⟨_, rfl⟩
          replace H : (if 0 ≤ (ji9) then (if (ji9) < (x7_1.length : Int) then (if 0 ≤ (wrap64 (x8_1 - 2)) then (if (wrap64 (x8_1 - 2)) < (x7_1.length : Int) then ((armadaref12_turn.f (rd x7_1 (ji9)) 7).bind fun t137 => ((armadaref12_turn.f (rd x7_1 (ji9)) 18).bind fun t138 => ((armadaref12_turn.f (rd x7_1 (wrap64 (x8_1 - 2))) 17).bind fun t139 => ((armadaref12_turn.f (rd x7_1 (wrap64 (x8_1 - 2))) 19).bind fun t140 => (if 0 ≤ (wrap64 (x8_1 - 7)) then (if (wrap64 (x8_1 - 7)) < (x7_1.length : Int) then (if 0 ≤ (wrap64 (x8_1 - 16)) then (if (wrap64 (x8_1 - 16)) < (x7_1.length : Int) then ((armadaref12_mask.f (wrap64 ((wrap64 ((wrap64 ((Go.bits .xor .i64 (Go.bits .xor .i64 t139 t140) ((rd x7_1 (wrap64 (x8_1 - 2))) / 1024)) + (rd x7_1 (wrap64 (x8_1 - 7))))) + (Go.bits .xor .i64 (Go.bits .xor .i64 t137 t138) ((rd x7_1 (ji9)) / 8)))) + (rd x7_1 (wrap64 (x8_1 - 16)))))).bind fun t143 => (if x7_1.length < 17592186044416 then (armadaref12_rolled.l0 k1 l0 l2 (x7_1 ++ [t143]) (wrap64 (x8_1 + 1))) else (none))) else (none)) else (none)) else (none)) else (none)))))) else (none)) else (none)) else (none)) else (none)) = some r := by first | (rw [hji9] at H; exact H) | (simp only [hji9] at H ⊢; exact H)
          have hji9w : (IntKind.i64.wrap (x8_1 - 15)) = ji9 := (i64_w _).trans hji9
          by_cases c10 : 0 ≤ (ji9)
          · rw [if_pos c10] at H
            have c10b0 : decide (0 ≤ (ji9)) = true := decide_eq_true c10
            clear c10
            by_cases c11 : (ji9) < (x7_1.length : Int)
            · rw [if_pos c11] at H
              have c11b0 : decide ((ji9) < (x7_1.length : Int)) = true := decide_eq_true c11
              clear c11
              obtain ⟨ji12, hji12⟩ : ∃ j_ : Int, (wrap64 (x8_1 - 2)) = j_ := ⟨_, rfl⟩
              replace H : (if 0 ≤ (ji12) then (if (ji12) < (x7_1.length : Int) then ((armadaref12_turn.f (rd x7_1 (ji9)) 7).bind fun t137 => ((armadaref12_turn.f (rd x7_1 (ji9)) 18).bind fun t138 => ((armadaref12_turn.f (rd x7_1 (ji12)) 17).bind fun t139 => ((armadaref12_turn.f (rd x7_1 (ji12)) 19).bind fun t140 => (if 0 ≤ (wrap64 (x8_1 - 7)) then (if (wrap64 (x8_1 - 7)) < (x7_1.length : Int) then (if 0 ≤ (wrap64 (x8_1 - 16)) then (if (wrap64 (x8_1 - 16)) < (x7_1.length : Int) then ((armadaref12_mask.f (wrap64 ((wrap64 ((wrap64 ((Go.bits .xor .i64 (Go.bits .xor .i64 t139 t140) ((rd x7_1 (ji12)) / 1024)) + (rd x7_1 (wrap64 (x8_1 - 7))))) + (Go.bits .xor .i64 (Go.bits .xor .i64 t137 t138) ((rd x7_1 (ji9)) / 8)))) + (rd x7_1 (wrap64 (x8_1 - 16)))))).bind fun t143 => (if x7_1.length < 17592186044416 then (armadaref12_rolled.l0 k1 l0 l2 (x7_1 ++ [t143]) (wrap64 (x8_1 + 1))) else (none))) else (none)) else (none)) else (none)) else (none)))))) else (none)) else (none)) = some r := by first | (rw [hji12] at H; exact H) | (simp only [hji12] at H ⊢; exact H)
              have hji12w : (IntKind.i64.wrap (x8_1 - 2)) = ji12 := (i64_w _).trans hji12
              by_cases c13 : 0 ≤ (ji12)
              · rw [if_pos c13] at H
                have c13b0 : decide (0 ≤ (ji12)) = true := decide_eq_true c13
                clear c13
                by_cases c14 : (ji12) < (x7_1.length : Int)
                · rw [if_pos c14] at H
                  have c14b0 : decide ((ji12) < (x7_1.length : Int)) = true := decide_eq_true c14
                  clear c14
                  replace H := Option.bind_eq_some_iff.mp H
                  obtain ⟨t137, A150, H⟩ := H
                  replace H : ((armadaref12_turn.f (rd x7_1 (ji9)) 18).bind fun t138 => ((armadaref12_turn.f (rd x7_1 (ji12)) 17).bind fun t139 => ((armadaref12_turn.f (rd x7_1 (ji12)) 19).bind fun t140 => (if 0 ≤ (wrap64 (x8_1 - 7)) then (if (wrap64 (x8_1 - 7)) < (x7_1.length : Int) then (if 0 ≤ (wrap64 (x8_1 - 16)) then (if (wrap64 (x8_1 - 16)) < (x7_1.length : Int) then ((armadaref12_mask.f (wrap64 ((wrap64 ((wrap64 ((Go.bits .xor .i64 (Go.bits .xor .i64 t139 t140) ((rd x7_1 (ji12)) / 1024)) + (rd x7_1 (wrap64 (x8_1 - 7))))) + (Go.bits .xor .i64 (Go.bits .xor .i64 t137 t138) ((rd x7_1 (ji9)) / 8)))) + (rd x7_1 (wrap64 (x8_1 - 16)))))).bind fun t143 => (if x7_1.length < 17592186044416 then (armadaref12_rolled.l0 k1 l0 l2 (x7_1 ++ [t143]) (wrap64 (x8_1 + 1))) else (none))) else (none)) else (none)) else (none)) else (none))))) = some r := H
                  have A15 := Aside0.mk A150
                  clear A150
                  replace H := Option.bind_eq_some_iff.mp H
                  obtain ⟨t138, A160, H⟩ := H
                  replace H : ((armadaref12_turn.f (rd x7_1 (ji12)) 17).bind fun t139 => ((armadaref12_turn.f (rd x7_1 (ji12)) 19).bind fun t140 => (if 0 ≤ (wrap64 (x8_1 - 7)) then (if (wrap64 (x8_1 - 7)) < (x7_1.length : Int) then (if 0 ≤ (wrap64 (x8_1 - 16)) then (if (wrap64 (x8_1 - 16)) < (x7_1.length : Int) then ((armadaref12_mask.f (wrap64 ((wrap64 ((wrap64 ((Go.bits .xor .i64 (Go.bits .xor .i64 t139 t140) ((rd x7_1 (ji12)) / 1024)) + (rd x7_1 (wrap64 (x8_1 - 7))))) + (Go.bits .xor .i64 (Go.bits .xor .i64 t137 t138) ((rd x7_1 (ji9)) / 8)))) + (rd x7_1 (wrap64 (x8_1 - 16)))))).bind fun t143 => (if x7_1.length < 17592186044416 then (armadaref12_rolled.l0 k1 l0 l2 (x7_1 ++ [t143]) (wrap64 (x8_1 + 1))) else (none))) else (none)) else (none)) else (none)) else (none)))) = some r := H
                  have A16 := Aside0.mk A160
                  clear A160
                  replace H := Option.bind_eq_some_iff.mp H
                  obtain ⟨t139, A170, H⟩ := H
                  replace H : ((armadaref12_turn.f (rd x7_1 (ji12)) 19).bind fun t140 => (if 0 ≤ (wrap64 (x8_1 - 7)) then (if (wrap64 (x8_1 - 7)) < (x7_1.length : Int) then (if 0 ≤ (wrap64 (x8_1 - 16)) then (if (wrap64 (x8_1 - 16)) < (x7_1.length : Int) then ((armadaref12_mask.f (wrap64 ((wrap64 ((wrap64 ((Go.bits .xor .i64 (Go.bits .xor .i64 t139 t140) ((rd x7_1 (ji12)) / 1024)) + (rd x7_1 (wrap64 (x8_1 - 7))))) + (Go.bits .xor .i64 (Go.bits .xor .i64 t137 t138) ((rd x7_1 (ji9)) / 8)))) + (rd x7_1 (wrap64 (x8_1 - 16)))))).bind fun t143 => (if x7_1.length < 17592186044416 then (armadaref12_rolled.l0 k1 l0 l2 (x7_1 ++ [t143]) (wrap64 (x8_1 + 1))) else (none))) else (none)) else (none)) else (none)) else (none))) = some r := H
                  have A17 := Aside0.mk A170
                  clear A170
                  replace H := Option.bind_eq_some_iff.mp H
                  obtain ⟨t140, A180, H⟩ := H
                  replace H : (if 0 ≤ (wrap64 (x8_1 - 7)) then (if (wrap64 (x8_1 - 7)) < (x7_1.length : Int) then (if 0 ≤ (wrap64 (x8_1 - 16)) then (if (wrap64 (x8_1 - 16)) < (x7_1.length : Int) then ((armadaref12_mask.f (wrap64 ((wrap64 ((wrap64 ((Go.bits .xor .i64 (Go.bits .xor .i64 t139 t140) ((rd x7_1 (ji12)) / 1024)) + (rd x7_1 (wrap64 (x8_1 - 7))))) + (Go.bits .xor .i64 (Go.bits .xor .i64 t137 t138) ((rd x7_1 (ji9)) / 8)))) + (rd x7_1 (wrap64 (x8_1 - 16)))))).bind fun t143 => (if x7_1.length < 17592186044416 then (armadaref12_rolled.l0 k1 l0 l2 (x7_1 ++ [t143]) (wrap64 (x8_1 + 1))) else (none))) else (none)) else (none)) else (none)) else (none)) = some r := H
                  have A18 := Aside0.mk A180
                  clear A180
                  obtain ⟨ji19, hji19⟩ : ∃ j_ : Int, (wrap64 (x8_1 - 7)) = j_ := ⟨_, rfl⟩
                  replace H : (if 0 ≤ (ji19) then (if (ji19) < (x7_1.length : Int) then (if 0 ≤ (wrap64 (x8_1 - 16)) then (if (wrap64 (x8_1 - 16)) < (x7_1.length : Int) then ((armadaref12_mask.f (wrap64 ((wrap64 ((wrap64 ((Go.bits .xor .i64 (Go.bits .xor .i64 t139 t140) ((rd x7_1 (ji12)) / 1024)) + (rd x7_1 (ji19)))) + (Go.bits .xor .i64 (Go.bits .xor .i64 t137 t138) ((rd x7_1 (ji9)) / 8)))) + (rd x7_1 (wrap64 (x8_1 - 16)))))).bind fun t143 => (if x7_1.length < 17592186044416 then (armadaref12_rolled.l0 k1 l0 l2 (x7_1 ++ [t143]) (wrap64 (x8_1 + 1))) else (none))) else (none)) else (none)) else (none)) else (none)) = some r := by first | (rw [hji19] at H; exact H) | (simp only [hji19] at H ⊢; exact H)
                  (try rw [hji19] at A15)
                  (try rw [hji19] at A16)
                  (try rw [hji19] at A17)
                  (try rw [hji19] at A18)
                  have hji19w : (IntKind.i64.wrap (x8_1 - 7)) = ji19 := (i64_w _).trans hji19
                  by_cases c20 : 0 ≤ (ji19)
                  · rw [if_pos c20] at H
                    have c20b0 : decide (0 ≤ (ji19)) = true := decide_eq_true c20
                    clear c20
                    by_cases c21 : (ji19) < (x7_1.length : Int)
                    · rw [if_pos c21] at H
                      have c21b0 : decide ((ji19) < (x7_1.length : Int)) = true := decide_eq_true c21
                      clear c21
                      obtain ⟨ji22, hji22⟩ : ∃ j_ : Int, (wrap64 (x8_1 - 16)) = j_ := ⟨_, rfl⟩
                      replace H : (if 0 ≤ (ji22) then (if (ji22) < (x7_1.length : Int) then ((armadaref12_mask.f (wrap64 ((wrap64 ((wrap64 ((Go.bits .xor .i64 (Go.bits .xor .i64 t139 t140) ((rd x7_1 (ji12)) / 1024)) + (rd x7_1 (ji19)))) + (Go.bits .xor .i64 (Go.bits .xor .i64 t137 t138) ((rd x7_1 (ji9)) / 8)))) + (rd x7_1 (ji22))))).bind fun t143 => (if x7_1.length < 17592186044416 then (armadaref12_rolled.l0 k1 l0 l2 (x7_1 ++ [t143]) (wrap64 (x8_1 + 1))) else (none))) else (none)) else (none)) = some r := by first | (rw [hji22] at H; exact H) | (simp only [hji22] at H ⊢; exact H)
                      (try rw [hji22] at A15)
                      (try rw [hji22] at A16)
                      (try rw [hji22] at A17)
                      (try rw [hji22] at A18)
                      have hji22w : (IntKind.i64.wrap (x8_1 - 16)) = ji22 := (i64_w _).trans hji22
                      by_cases c23 : 0 ≤ (ji22)
                      · rw [if_pos c23] at H
                        have c23b0 : decide (0 ≤ (ji22)) = true := decide_eq_true c23
                        clear c23
                        by_cases c24 : (ji22) < (x7_1.length : Int)
                        · rw [if_pos c24] at H
                          have c24b0 : decide ((ji22) < (x7_1.length : Int)) = true := decide_eq_true c24
                          clear c24
                          replace H := Option.bind_eq_some_iff.mp H
                          obtain ⟨t143, A250, H⟩ := H
                          replace H : (if x7_1.length < 17592186044416 then (armadaref12_rolled.l0 k1 l0 l2 (x7_1 ++ [t143]) (wrap64 (x8_1 + 1))) else (none)) = some r := H
                          have A25 := Aside0.mk A250
                          clear A250
                          by_cases c26 : x7_1.length < 17592186044416
                          · rw [if_pos c26] at H
                            have LMc26 := Aside0.mk c26
                            clear c26
                            obtain ⟨y144, hy144⟩ : ∃ y_ : List Int, y_ = (x7_1 ++ [t143]) := ⟨_, rfl⟩
                            replace H : (armadaref12_rolled.l0 k1 l0 l2 y144 (wrap64 (x8_1 + 1))) = some r := by first | (rw [hy144]; with_reducible exact H) | (have H2_ := (Option.bind_some _ _).symm.trans H; rw [hy144]; with_reducible exact H2_) | (have H2_ := (Option.bind_some _ _).symm.trans H; with_reducible exact H2_) | with_reducible exact H | (rw [hy144]; exact H) | exact H
                            have Ny144 := Aside0.mk hy144
                            clear hy144
                            have H' := Aside0.mk H
                            clear H
                            obtain ⟨Ao27, co27, eo27⟩ := Kd.R_slice HO_7.out
                            subst eo27
                            have p135 : 0 ≤ ((ji9) : Int) := of_decide_eq_true (by first | (with_reducible assumption) | assumption)
                            have q135 : (ji9) < (x7_1.length : Int) := of_decide_eq_true (by first | (with_reducible assumption) | assumption)
                            obtain ⟨ad135, e135, hx135_0⟩ := Kd.at_int (Kd.R_reads' HO_7.out).2.2 (ji9) p135 q135
                            cases e135
                            replace p135 := eq_true p135
                            replace q135 := eq_true q135
                            have p136 : 0 ≤ ((ji12) : Int) := of_decide_eq_true (by first | (with_reducible assumption) | assumption)
                            have q136 : (ji12) < (x7_1.length : Int) := of_decide_eq_true (by first | (with_reducible assumption) | assumption)
                            obtain ⟨ad136, e136, hx136_0⟩ := Kd.at_int (Kd.R_reads' HO_7.out).2.2 (ji12) p136 q136
                            obtain rfl : ad135 = ad136 := (by injection e136)
                            replace p136 := eq_true p136
                            replace q136 := eq_true q136
                            try go_wp2_with (first | ((with_reducible refine gate_callee (f := 36) rfl ?_); refine goesL_ (some 39) rfl rfl Try.func36 (by kernel_rfl) rfl #[.int .i64 (rd x7_1 (ji9)), .int .i64 7] rfl (by (try simp only [List.map_toArray, List.map_cons, List.map_nil]); first | done | (simp only [hji9]; rfl) | rfl | (simp only [List.length_drop, List.length_take]; rfl)) ?_; (with_reducible refine (armadaref12_turn.calls (rd x7_1 (ji9)) 7 t137 _ A15.out).mono ?_); rintro e w' ⟨rfl, ⟨nd, rfl⟩⟩; refine ⟨_, rfl, ?_⟩) | (go_at_call 36; (with_reducible refine (armadaref12_turn.calls (rd x7_1 (ji9)) 7 t137 _ A15.out).mono ?_); rintro e w' ⟨rfl, ⟨nd, rfl⟩⟩) | ((with_reducible refine gate_callee (f := 36) rfl ?_); refine goesL_ (some 41) rfl rfl Try.func36 (by kernel_rfl) rfl #[.int .i64 (rd x7_1 (ji9)), .int .i64 18] rfl (by (try simp only [List.map_toArray, List.map_cons, List.map_nil]); first | done | (simp only [hji9]; rfl) | rfl | (simp only [List.length_drop, List.length_take]; rfl)) ?_; (with_reducible refine (armadaref12_turn.calls (rd x7_1 (ji9)) 18 t138 _ A16.out).mono ?_); rintro e w' ⟨rfl, ⟨nd, rfl⟩⟩; refine ⟨_, rfl, ?_⟩) | (go_at_call 36; (with_reducible refine (armadaref12_turn.calls (rd x7_1 (ji9)) 18 t138 _ A16.out).mono ?_); rintro e w' ⟨rfl, ⟨nd, rfl⟩⟩) | ((with_reducible refine gate_callee (f := 36) rfl ?_); refine goesL_ (some 47) rfl rfl Try.func36 (by kernel_rfl) rfl #[.int .i64 (rd x7_1 (ji12)), .int .i64 17] rfl (by (try simp only [List.map_toArray, List.map_cons, List.map_nil]); first | done | (simp only [hji12]; rfl) | rfl | (simp only [List.length_drop, List.length_take]; rfl)) ?_; (with_reducible refine (armadaref12_turn.calls (rd x7_1 (ji12)) 17 t139 _ A17.out).mono ?_); rintro e w' ⟨rfl, ⟨nd, rfl⟩⟩; refine ⟨_, rfl, ?_⟩) | (go_at_call 36; (with_reducible refine (armadaref12_turn.calls (rd x7_1 (ji12)) 17 t139 _ A17.out).mono ?_); rintro e w' ⟨rfl, ⟨nd, rfl⟩⟩) | ((with_reducible refine gate_callee (f := 36) rfl ?_); refine goesL_ (some 49) rfl rfl Try.func36 (by kernel_rfl) rfl #[.int .i64 (rd x7_1 (ji12)), .int .i64 19] rfl (by (try simp only [List.map_toArray, List.map_cons, List.map_nil]); first | done | (simp only [hji12]; rfl) | rfl | (simp only [List.length_drop, List.length_take]; rfl)) ?_; (with_reducible refine (armadaref12_turn.calls (rd x7_1 (ji12)) 19 t140 _ A18.out).mono ?_); rintro e w' ⟨rfl, ⟨nd, rfl⟩⟩; refine ⟨_, rfl, ?_⟩) | (go_at_call 36; (with_reducible refine (armadaref12_turn.calls (rd x7_1 (ji12)) 19 t140 _ A18.out).mono ?_); rintro e w' ⟨rfl, ⟨nd, rfl⟩⟩))
                            (try (rw [drewN_self wr]; generalize hq_ : World.drewN wr _ = wr; have n0_ : Aside0 (Kd.R (Kd.int .i64) 3 wr w.heap.size (fun _ => True) (.slice (some ad135) x7_1.length co27) x7_1) := ⟨by rw [← hq_]; exact (by (with_reducible repeat (first | apply Kd.R_alloc | apply Kd.R_drewN | apply Kd.R_drew)); exact HO_7.out)⟩; have n1_ : Aside0 (Below w.heap.size w wr) := ⟨by rw [← hq_]; exact (by repeat (first | (with_reducible first | exact HB.out | apply below_alloc | apply pw_below_drewN | apply below_drew1) | exact HB.out))⟩; clear HO_7 HB hq_; have HO_7 := n0_; have HB := n1_; clear n0_ n1_))
                            have n0_ := Aside0.mk (Kd.R_drew HO_7.out)
                            have n1_ := Aside0.mk (below_drew1 HB.out)
                            clear HO_7
                            clear HB
                            have HO_7 := n0_
                            have HB := n1_
                            clear n0_ n1_
                            have p141 : 0 ≤ ((ji19) : Int) := of_decide_eq_true (by first | (with_reducible assumption) | assumption)
                            have q141 : (ji19) < (x7_1.length : Int) := of_decide_eq_true (by first | (with_reducible assumption) | assumption)
                            obtain ⟨ad141, e141, hx141_0⟩ := Kd.at_int (Kd.R_reads' HO_7.out).2.2 (ji19) p141 q141
                            obtain rfl : ad135 = ad141 := (by injection e141)
                            replace p141 := eq_true p141
                            replace q141 := eq_true q141
                            have p142 : 0 ≤ ((ji22) : Int) := of_decide_eq_true (by first | (with_reducible assumption) | assumption)
                            have q142 : (ji22) < (x7_1.length : Int) := of_decide_eq_true (by first | (with_reducible assumption) | assumption)
                            obtain ⟨ad142, e142, hx142_0⟩ := Kd.at_int (Kd.R_reads' HO_7.out).2.2 (ji22) p142 q142
                            obtain rfl : ad135 = ad142 := (by injection e142)
                            replace p142 := eq_true p142
                            replace q142 := eq_true q142
                            refine start_ (n := 20) (S := fun w' => w'.cell? (ad135.add ((ji19)).toNat) = some (.int .i64 (rd x7_1 (ji19))) ∧ w'.cell? (ad135.add ((ji22)).toNat) = some (.int .i64 (rd x7_1 (ji22)))) (ds := [17, 18]) #[false, false, false, false, false, false, false, false, false, false, false, false, false, false, false, false, false, false, false, false] (by kernel_rfl) rfl rfl ⟨hx141_0, hx142_0⟩ (fun hHeld => ?_); refine with_tabW armadaref12_rolled.tab9 armadaref12_rolled.bits9 (fun HT_ HW_ => ?_)
                            generalize wr.drew = w28 at HO_7 HB hx141_0 hx142_0 hHeld ⊢
                            refine pure_ (i := 0) (N := some 54) (v := ?_) (a' := ?_) #[true, false, false, false, false, false, false, false, false, false, false, false, false, false, false, false, false, false, false, false] rfl rfl (any_of HT_.out (by kernel_rfl)) (fun _ _ _ h => h) (Or.inl ⟨by rfl, ?_⟩) ?_ ?_
                            rotate_left
                            · intro w'
                              go_simp
                              with_reducible rfl
                            rotate_left
                            · simp only [Act.put, List.setIfInBounds_toArray, List.set_cons_zero, List.set_cons_succ, i64_w, i32_w]
                              rfl
                            refine pure_ (i := 1) (N := some 55) (v := ?_) (a' := ?_) #[true, true, false, false, false, false, false, false, false, false, false, false, false, false, false, false, false, false, false, false] rfl rfl (any_of HT_.out (by kernel_rfl)) (fun _ _ _ h => h) (Or.inl ⟨by rfl, ?_⟩) ?_ ?_
                            rotate_left
                            · intro w'
                              go_simp
                              with_reducible rfl
                            rotate_left
                            · simp only [Act.put, List.setIfInBounds_toArray, List.set_cons_zero, List.set_cons_succ, i64_w, i32_w]
                              rfl
                            refine pure_ (i := 2) (N := some 56) (v := ?_) (a' := ?_) #[true, true, true, false, false, false, false, false, false, false, false, false, false, false, false, false, false, false, false, false] rfl rfl (any_of HT_.out (by kernel_rfl)) (fun _ _ _ h => h) (Or.inl ⟨by rfl, ?_⟩) ?_ ?_
                            rotate_left
                            · intro w'
                              go_simp
                              with_reducible rfl
                            rotate_left
                            · simp only [Act.put, List.setIfInBounds_toArray, List.set_cons_zero, List.set_cons_succ, i64_w, i32_w]
                              rfl
                            refine pure_ (i := 3) (N := some 57) (v := ?_) (a' := ?_) #[true, true, true, true, false, false, false, false, false, false, false, false, false, false, false, false, false, false, false, false] rfl rfl (any_of HT_.out (by kernel_rfl)) (fun _ _ _ h => h) (Or.inl ⟨by rfl, ?_⟩) ?_ ?_
                            rotate_left
                            · intro w'
                              go_simp
                              with_reducible rfl
                            rotate_left
                            · simp only [Act.put, List.setIfInBounds_toArray, List.set_cons_zero, List.set_cons_succ, i64_w, i32_w]
                              rfl
                            refine pure_ (i := 4) (N := some 58) (v := ?_) (a' := ?_) #[true, true, true, true, true, false, false, false, false, false, false, false, false, false, false, false, false, false, false, false] rfl rfl (any_of HT_.out (by kernel_rfl)) (fun _ _ _ h => h) (Or.inl ⟨by rfl, ?_⟩) ?_ ?_
                            rotate_left
                            · intro w'
                              go_simp
                              with_reducible rfl
                            rotate_left
                            · simp only [Act.put, List.setIfInBounds_toArray, List.set_cons_zero, List.set_cons_succ, i64_w, i32_w]
                              rfl
                            refine pure_ (i := 5) (N := some 59) (v := ?_) (a' := ?_) #[true, true, true, true, true, true, false, false, false, false, false, false, false, false, false, false, false, false, false, false] rfl rfl (any_of HT_.out (by kernel_rfl)) (fun _ _ _ h => h) (Or.inl ⟨by rfl, ?_⟩) ?_ ?_
                            rotate_left
                            · intro w'
                              go_simp
                              with_reducible rfl
                            rotate_left
                            · simp only [Act.put, List.setIfInBounds_toArray, List.set_cons_zero, List.set_cons_succ, i64_w, i32_w]
                              rfl
                            refine pure_ (i := 8) (N := some 62) (v := ?_) (a' := ?_) #[true, true, true, true, true, true, false, false, true, false, false, false, false, false, false, false, false, false, false, false] rfl rfl (any_of HT_.out (by kernel_rfl)) (fun _ _ _ h => h) (Or.inl ⟨by rfl, ?_⟩) ?_ ?_
                            rotate_left
                            · intro w'
                              go_simp
                              with_reducible rfl
                            rotate_left
                            · simp only [Act.put, List.setIfInBounds_toArray, List.set_cons_zero, List.set_cons_succ, i64_w, i32_w]
                              rfl
                            refine pure_ (i := 10) (N := some 64) (v := ?_) (a' := ?_) #[true, true, true, true, true, true, false, false, true, false, true, false, false, false, false, false, false, false, false, false] rfl rfl (any_of HT_.out (by kernel_rfl)) (fun _ _ _ h => h) (Or.inl ⟨by rfl, ?_⟩) ?_ ?_
                            rotate_left
                            · intro w'
                              go_simp
                              with_reducible rfl
                            rotate_left
                            · simp only [Act.put, List.setIfInBounds_toArray, List.set_cons_zero, List.set_cons_succ, i64_w, i32_w]
                              rfl
                            refine pure_ (i := 11) (N := some 65) (v := ?_) (a' := ?_) #[true, true, true, true, true, true, false, false, true, false, true, true, false, false, false, false, false, false, false, false] rfl rfl (any_of HT_.out (by kernel_rfl)) (fun _ _ _ h => h) (Or.inl ⟨by rfl, ?_⟩) ?_ ?_
                            rotate_left
                            · intro w'
                              go_simp
                              with_reducible rfl
                            rotate_left
                            · simp only [Act.put, List.setIfInBounds_toArray, List.set_cons_zero, List.set_cons_succ, i64_w, i32_w]
                              rfl
                            refine pure_ (i := 12) (N := some 66) (v := ?_) (a' := ?_) #[true, true, true, true, true, true, false, false, true, false, true, true, true, false, false, false, false, false, false, false] rfl rfl (any_of HT_.out (by kernel_rfl)) (fun _ _ _ h => h) (Or.inl ⟨by rfl, ?_⟩) ?_ ?_
                            rotate_left
                            · intro w'
                              go_simp
                              with_reducible rfl
                            rotate_left
                            · simp only [Act.put, List.setIfInBounds_toArray, List.set_cons_zero, List.set_cons_succ, i64_w, i32_w]
                              rfl
                            refine pure_ (i := 13) (N := some 67) (v := ?_) (a' := ?_) #[true, true, true, true, true, true, false, false, true, false, true, true, true, true, false, false, false, false, false, false] rfl rfl (any_of HT_.out (by kernel_rfl)) (fun _ _ _ h => h) (Or.inl ⟨by rfl, ?_⟩) ?_ ?_
                            rotate_left
                            · intro w'
                              go_simp
                              with_reducible rfl
                            rotate_left
                            · simp only [Act.put, List.setIfInBounds_toArray, List.set_cons_zero, List.set_cons_succ, i64_w, i32_w]
                              rfl
                            refine take_ (i := 6) (N := some 60) (v := ?_) (a' := ?_) #[true, true, true, true, true, true, true, false, true, false, true, true, true, true, false, false, false, false, false, false] rfl rfl (take_ofW HT_.out HW_.out (by kernel_rfl)) (fun _ _ _ h => h) (Or.inl ⟨by rfl, ?_⟩) hHeld ?_ ?_
                            rotate_left
                            · rintro w' ⟨s0, s1⟩
                              go_simp
                              with_reducible rfl
                            rotate_left
                            · simp only [Act.put, List.setIfInBounds_toArray, List.set_cons_zero, List.set_cons_succ, i64_w, i32_w]
                              rfl
                            refine pure_ (i := 7) (N := some 61) (v := ?_) (a' := ?_) #[true, true, true, true, true, true, true, true, true, false, true, true, true, true, false, false, false, false, false, false] rfl rfl (any_of HT_.out (by kernel_rfl)) (fun _ _ _ h => h) (Or.inl ⟨by rfl, ?_⟩) ?_ ?_
                            rotate_left
                            · intro w'
                              go_simp
                              with_reducible rfl
                            rotate_left
                            · simp only [Act.put, List.setIfInBounds_toArray, List.set_cons_zero, List.set_cons_succ, i64_w, i32_w]
                              rfl
                            refine pure_ (i := 9) (N := some 63) (v := ?_) (a' := ?_) #[true, true, true, true, true, true, true, true, true, true, true, true, true, true, false, false, false, false, false, false] rfl rfl (any_of HT_.out (by kernel_rfl)) (fun _ _ _ h => h) (Or.inl ⟨by rfl, ?_⟩) ?_ ?_
                            rotate_left
                            · intro w'
                              go_simp
                              with_reducible rfl
                            rotate_left
                            · simp only [Act.put, List.setIfInBounds_toArray, List.set_cons_zero, List.set_cons_succ, i64_w, i32_w]
                              rfl
                            refine take_ (i := 14) (N := some 68) (v := ?_) (a' := ?_) #[true, true, true, true, true, true, true, true, true, true, true, true, true, true, true, false, false, false, false, false] rfl rfl (take_ofW HT_.out HW_.out (by kernel_rfl)) (fun _ _ _ h => h) (Or.inl ⟨by rfl, ?_⟩) hHeld ?_ ?_
                            rotate_left
                            · rintro w' ⟨s0, s1⟩
                              go_simp
                              with_reducible rfl
                            rotate_left
                            · simp only [Act.put, List.setIfInBounds_toArray, List.set_cons_zero, List.set_cons_succ, i64_w, i32_w]
                              rfl
                            refine pure_ (i := 15) (N := some 69) (v := ?_) (a' := ?_) #[true, true, true, true, true, true, true, true, true, true, true, true, true, true, true, true, false, false, false, false] rfl rfl (any_of HT_.out (by kernel_rfl)) (fun _ _ _ h => h) (Or.inl ⟨by rfl, ?_⟩) ?_ ?_
                            rotate_left
                            · intro w'
                              go_simp
                              with_reducible rfl
                            rotate_left
                            · simp only [Act.put, List.setIfInBounds_toArray, List.set_cons_zero, List.set_cons_succ, i64_w, i32_w]
                              rfl
                            refine one_ (i := 16) (N := some 70) #[true, true, true, true, true, true, true, true, true, true, true, true, true, true, true, true, true, false, false, false] rfl rfl (one_of HT_.out (by kernel_rfl)) (by decide) (fun K hK => ?_)
                            refine goes_ Try.func37 (by kernel_rfl) rfl #[.int .i64 (wrap64 ((wrap64 ((wrap64 ((Go.bits .xor .i64 (Go.bits .xor .i64 t139 t140) ((rd x7_1 (ji12)) / 1024)) + (rd x7_1 (ji19)))) + (Go.bits .xor .i64 (Go.bits .xor .i64 t137 t138) ((rd x7_1 (ji9)) / 8)))) + (rd x7_1 (ji22))))] (by rfl) rfl rfl (by (try simp only [List.map_toArray, List.map_cons, List.map_nil]); first | done | (simp only [hji12, hji19, hji22, hji9]; rfl) | rfl | (simp only [List.length_drop, List.length_take]; rfl)) ?_
                            with_reducible refine (armadaref12_mask.calls (wrap64 ((wrap64 ((wrap64 ((Go.bits .xor .i64 (Go.bits .xor .i64 t139 t140) ((rd x7_1 (ji12)) / 1024)) + (rd x7_1 (ji19)))) + (Go.bits .xor .i64 (Go.bits .xor .i64 t137 t138) ((rd x7_1 (ji9)) / 8)))) + (rd x7_1 (ji22)))) t143 _ A25.out).mono ?_
                            rintro e w' ⟨rfl, ⟨nd, rfl⟩⟩
                            refine ⟨_, rfl, ?_⟩
                            refine hK.out _ _ ⟨hHeld.1, hHeld.2⟩ (fun hHeld => ?_)
                            clear hK K
                            refine norm_ (a' := ?_) ?_ ?_
                            rotate_left
                            · show Act.put _ (some 70) _ = _
                              simp only [Act.put, List.setIfInBounds_toArray, List.set_cons_zero, List.set_cons_succ, i64_w, i32_w]
                              rfl
                            refine last_ (i := 17) (N := some 71) #[true, true, true, true, true, true, true, true, true, true, true, true, true, true, true, true, true, true, false, false] rfl rfl (one_of HT_.out (by kernel_rfl)) (by decide) (fun K hK => ?_)
                            refine value_ (w1 := ?_) (v := ?_) (by rfl) rfl ?_ ?_
                            rotate_left 2
                            · go_simp
                              constructor
                              · rfl
                              · rfl
                            refine hK.out _ _ ?_
                            clear hK K
                            refine norm_ (a' := ?_) ?_ ?_
                            rotate_left
                            · show Act.put _ (some 71) _ = _
                              simp only [Act.put, List.setIfInBounds_toArray, List.set_cons_zero, List.set_cons_succ, i64_w, i32_w]
                              rfl
                            refine last_ (i := 18) (N := some 72) #[true, true, true, true, true, true, true, true, true, true, true, true, true, true, true, true, true, true, true, false] rfl rfl (one_of HT_.out (by kernel_rfl)) (by decide) (fun K hK => ?_)
                            refine Kd.R_append_step (Kd.int .i64) (w0 := w) w.heap.size (by rfl) (.tmp 54) (.tmp 71) 29 3 (.int .i64 0) 8 rfl Try.underlying29 info3 rfl (by decide) (by omega) (.slice (some ad135) x7_1.length co27) x7_1 t143 [.int .i64 t143] (fun _ => True) (fun _ => False) rfl rfl ?aP (fun _ hk => hk.elim) ?aF ?aO ?aB ?aS ?aL ?_
                            (case aP => exact rfl)
                            (case aB => exact (by repeat (first | (with_reducible first | exact HB.out | apply below_alloc | apply pw_below_drewN | apply below_drew1) | exact HB.out)))
                            (case aF => exact (fun _ _ => trivial))
                            (case aO => exact (by (with_reducible repeat (first | apply Kd.R_alloc | apply Kd.R_drewN | apply Kd.R_drew)); exact HO_7.out))
                            (case aS => exact (below_size (by repeat (first | (with_reducible first | exact HB.out | apply below_alloc | apply pw_below_drewN | apply below_drew1) | exact HB.out))))
                            (case aL => have := LMc26.out; omega)
                            intro v145 w29 ho hb hg hat
                            rw [← Ny144.out] at ho
                            have n0_ := Aside0.mk (hb)
                            have n1_ := Aside0.mk (ho)
                            clear HB
                            clear HO_7
                            have HB := n0_
                            have HO146 := n1_
                            clear n0_ n1_
                            clear ho hb hg hat
                            refine hK.out _ _ ?_
                            clear hK K
                            refine norm_ (a' := ?_) ?_ ?_
                            rotate_left
                            · show Act.put _ (some 72) _ = _
                              simp only [Act.put, List.setIfInBounds_toArray, List.set_cons_zero, List.set_cons_succ, i64_w, i32_w]
                              rfl
                            refine pure_ (i := 19) (N := some 7) (v := ?_) (a' := ?_) #[true, true, true, true, true, true, true, true, true, true, true, true, true, true, true, true, true, true, true, true] rfl rfl (any_of HT_.out (by kernel_rfl)) (fun _ _ _ h => h) (Or.inl ⟨by rfl, ?_⟩) ?_ ?_
                            rotate_left
                            · intro w'
                              go_simp
                              with_reducible rfl
                            rotate_left
                            · simp only [Act.put, List.setIfInBounds_toArray, List.set_cons_zero, List.set_cons_succ, i64_w, i32_w]
                              rfl
                            refine done_ (done_of HT_.out (by kernel_rfl)) ?_
                            try go_wp2
                            go_roundg k1
                            case measure => have := HK1.out; omega
                            case rel => exact ⟨(y144), (wrap64 (x8_1 + 1)), (by first | rfl | (simp; done) | (simp [*]; done)), H', ⟨by have := HK1.out; omega⟩, ⟨by (with_reducible repeat (first | apply Kd.R_alloc | apply Kd.R_drewN | apply Kd.R_drew)); exact HO146.out⟩, ⟨by repeat (first | (with_reducible first | exact HB.out | apply below_alloc | apply pw_below_drewN | apply below_drew1) | exact HB.out)⟩⟩
                          · rw [if_neg c26] at H
                            exact absurd H (by simp)
                        · rw [if_neg c24] at H
                          exact absurd H (by simp)
                      · rw [if_neg c23] at H
                        exact absurd H (by simp)
                    · rw [if_neg c21] at H
                      exact absurd H (by simp)
                  · rw [if_neg c20] at H
                    exact absurd H (by simp)
                · rw [if_neg c14] at H
                  exact absurd H (by simp)
              · rw [if_neg c13] at H
                exact absurd H (by simp)
            · rw [if_neg c11] at H
              exact absurd H (by simp)
          · rw [if_neg c10] at H
            exact absurd H (by simp)
        · rw [if_neg c8] at H
          have c8b0 : decide (x8_1 < 64) = false := decide_eq_false c8
          clear c8
          obtain ⟨y147, hy147⟩ : ∃ y_ : List Int, y_ = (([] : List Int)) := ⟨_, rfl⟩
          replace H : (if y147.length + l0.length < 17592186044416 then (armadaref12_rolled.l1 k1 l0 l2 x7_1 (y147 ++ l0) 0) else (none)) = some r := by first | (rw [hy147]; with_reducible exact H) | (have H2_ := (Option.bind_some _ _).symm.trans H; rw [hy147]; with_reducible exact H2_) | (have H2_ := (Option.bind_some _ _).symm.trans H; with_reducible exact H2_) | with_reducible exact H | (rw [hy147]; exact H) | exact H
          have Ny147 := Aside0.mk hy147
          clear hy147
          by_cases c30 : y147.length + l0.length < 17592186044416
          · rw [if_pos c30] at H
            have LMc30 := Aside0.mk c30
            clear c30
            obtain ⟨y150, hy150⟩ : ∃ y_ : List Int, y_ = (y147 ++ l0) := ⟨_, rfl⟩
            replace H : (armadaref12_rolled.l1 k1 l0 l2 x7_1 y150 0) = some r := by first | (rw [hy150]; with_reducible exact H) | (have H2_ := (Option.bind_some _ _).symm.trans H; rw [hy150]; with_reducible exact H2_) | (have H2_ := (Option.bind_some _ _).symm.trans H; with_reducible exact H2_) | with_reducible exact H | (rw [hy150]; exact H) | exact H
            have Ny150 := Aside0.mk hy150
            clear hy150
            have H' := Aside0.mk H
            clear H
            go_wp2_with (first | ((with_reducible refine gate_dst (N := 73) rfl ?_); refine Kd.R_lit (Kd.int .i64) _ 3 ?hg (N := 73) ?hd (xs := ([] : List Int)) (inner := []) (ok := fun _ => True) (okp := fun _ => True) ?hr ?hp (fun _ hk => hk) trivial (Below.refl _ _) (Nat.le_refl _) (by simp) ?_; (case hd => rfl); (case hg => rfl); (case hr => first | (go_simp; done) | (go_simp; rfl)); (case hp => exact (Reps.none _ _)); intro v148 w31 ho32 hb hg_ hnew_; clear hg_ hnew_; (first | rw [← Ny147.out] at ho32 | (simp only [Int.reduceToNat] at ho32; rw [← Ny147.out] at ho32)); have n0_ := Aside0.mk (Kd.R_elder' (by (with_reducible repeat (first | apply Kd.R_alloc | apply Kd.R_drewN | apply Kd.R_drew)); exact HO_7.out) (Kd.R_base ho32) hb); have n1_ := Aside0.mk (Kd.R_lower (Kd.R_new' ho32 (Kd.R_lt (by (with_reducible repeat (first | apply Kd.R_alloc | apply Kd.R_drewN | apply Kd.R_drew)); exact HO_7.out))) (below_size (by repeat (first | (with_reducible first | exact HB.out | apply below_alloc | apply pw_below_drewN | apply below_drew1) | exact HB.out)))); have n2_ := Aside0.mk (below_step (by repeat (first | (with_reducible first | exact HB.out | apply below_alloc | apply pw_below_drewN | apply below_drew1) | exact HB.out)) hb); clear HO_7; clear HB; have HO_7 := n0_; have HO149 := n1_; have HB := n2_; clear n0_ n1_ n2_; clear hb ho32) | ((with_reducible refine gate_builtin (b := .append) (xs := #[.tmp 73, .tmp 74]) rfl ?_); at_builtin; refine Kd.R_append_rows (Kd.int .i64) (w0 := w) w.heap.size rfl (.tmp 73) (.tmp 74) 29 3 (.int .i64 0) 8 rfl Try.underlying29 info3 rfl (by decide) (by omega) v148 y147 l0 _ _ _ (fun k_ => some k_ ≠ (u7 : Value).ownBlock) (fun _ => False) rfl rfl ?aO ?aR (fun _ _ h => h) (fun _ h => h.elim) ?aF ?aB ?aS ?aL ?_; (case aR => repeat (first | exact (Kd.C_below HR0.out HB.out) | (with_reducible refine Kd.C_alloc ?_ _) | (with_reducible refine Kd.C_drewN ?_ _) | (with_reducible refine Kd.C_drew ?_))); (case aB => exact (by repeat (first | (with_reducible first | exact HB.out | apply below_alloc | apply pw_below_drewN | apply below_drew1) | exact HB.out))); (case aF => exact (fun k_ hk => Kd.fresh' (Kd.R_lt (by (with_reducible repeat (first | apply Kd.R_alloc | apply Kd.R_drewN | apply Kd.R_drew)); exact HO_7.out)) k_ hk)); (case aO => exact (by (with_reducible repeat (first | apply Kd.R_alloc | apply Kd.R_drewN | apply Kd.R_drew)); exact Kd.R_mono HO149.out (fun _ hk => hk.2))); (case aS => exact (below_size (by repeat (first | (with_reducible first | exact HB.out | apply below_alloc | apply pw_below_drewN | apply below_drew1) | exact HB.out)))); (case aL => have := LMc30.out; omega); intro v151 w33 ho hb hg hat; rw [← Ny150.out] at ho; have n0_ := Aside0.mk (Kd.R_after (ok := (fun _ => True)) (by (with_reducible repeat (first | apply Kd.R_alloc | apply Kd.R_drewN | apply Kd.R_drew)); exact HO_7.out) hg hat); have n1_ := Aside0.mk (hb); have n2_ := Aside0.mk (ho); clear HO_7; clear HB; clear HO149; have HO_7 := n0_; have HB := n1_; have HO152 := n2_; clear n0_ n1_ n2_; clear ho hb hg hat))
            go_loopg [13, 14] k1 (fun kq v13 v14 w' => ∃ (x13_2 : List Int) (x14_2 : Int), v14 = .int .i64 x14_2 ∧ Aside0 (armadaref12_rolled.l1 kq l0 l2 x7_1 x13_2 x14_2 = some r) ∧ Aside0 (kq ≤ k1) ∧ Aside0 (Kd.R (Kd.int .i64) 3 w' w.heap.size (fun k_ => some k_ ≠ (v13 : Value).ownBlock) u7 x7_1) ∧ Aside0 (Kd.R (Kd.int .i64) 3 w' w.heap.size (fun k_ => some k_ ≠ (u7 : Value).ownBlock) v13 x13_2) ∧ Aside0 (Below w.heap.size w w'))
            case atStart => exact ⟨(y150), (0), (by first | rfl | (simp; done) | (simp [*]; done)), H', ⟨Nat.le_refl _⟩, ⟨by (with_reducible repeat (first | apply Kd.R_alloc | apply Kd.R_drewN | apply Kd.R_drew)); exact Kd.R_mono HO_7.out (fun _ hk => hk.2)⟩, ⟨by (with_reducible repeat (first | apply Kd.R_alloc | apply Kd.R_drewN | apply Kd.R_drew)); exact HO152.out⟩, ⟨by repeat (first | (with_reducible first | exact HB.out | apply below_alloc | apply pw_below_drewN | apply below_drew1) | exact HB.out)⟩⟩
            case round =>
              clear H'
              try clear c1
              try clear p1
              try clear q1
              try clear hx1
              try clear c2
              try clear p2
              try clear c3
              try clear c4
              try clear p6
              try clear c8
              try clear c8b0
              try clear c10
              try clear c10b0
              try clear c11
              try clear c11b0
              try clear c13
              try clear c13b0
              try clear p13
              try clear q13
              try clear hx13
              try clear c14
              try clear c14b0
              try clear p14
              try clear q14
              try clear hx14
              try clear c20
              try clear c20b0
              try clear c21
              try clear c21b0
              try clear c23
              try clear c23b0
              try clear c24
              try clear c24b0
              try clear c26
              try clear c30
              try clear hx135_0
              try clear hx136_0
              try clear hx141_0
              try clear hx142_0
              try clear p135
              try clear p136
              try clear p141
              try clear p142
              try clear p2
              try clear q135
              try clear q136
              try clear q141
              try clear q142
              obtain ⟨x13_2, x14_2, rfl, HA, HK2, HO_7, HO_13, HB⟩ := hrel
              cases gk with
              | zero => exact absurd HA.out (by simp [armadaref12_rolled.l1])
              | succ k2 =>
                have H := HA.out
                clear HA
                simp only [armadaref12_rolled.l1] at H
                by_cases c34 : x14_2 < 64
                · rw [if_pos c34] at H
                  have c34b0 : decide (x14_2 < 64) = true := decide_eq_true c34
                  clear c34
                  by_cases c35 : 4 < (x13_2.length : Int)
                  · rw [if_pos c35] at H
                    have c35b0 : decide (4 < (x13_2.length : Int)) = true := decide_eq_true c35
                    have c35b1 : decide (4 < x13_2.length) = true := decide_eq_true (by omega)
                    clear c35
                    by_cases c36 : 0 < (x13_2.length : Int)
                    · rw [if_pos c36] at H
                      have c36b0 : decide (0 < (x13_2.length : Int)) = true := decide_eq_true c36
                      have c36b1 : decide (0 < x13_2.length) = true := decide_eq_true (by omega)
                      clear c36
                      by_cases c37 : 7 < (x13_2.length : Int)
                      · rw [if_pos c37] at H
                        have c37b0 : decide (7 < (x13_2.length : Int)) = true := decide_eq_true c37
                        have c37b1 : decide (7 < x13_2.length) = true := decide_eq_true (by omega)
                        clear c37
                        replace H := Option.bind_eq_some_iff.mp H
                        obtain ⟨t156, A380, H⟩ := H
                        replace H : ((armadaref12_turn.f (rd x13_2 4) 11).bind fun t157 => ((armadaref12_turn.f (rd x13_2 4) 25).bind fun t158 => (if 5 < (x13_2.length : Int) then (if 6 < (x13_2.length : Int) then (if 0 ≤ x14_2 then (if x14_2 < (l2.length : Int) then (if x14_2 < (x7_1.length : Int) then ((armadaref12_mask.f (wrap64 ((wrap64 ((wrap64 ((wrap64 ((rd x13_2 7) + (Go.bits .xor .i64 (Go.bits .xor .i64 t156 t157) t158))) + (Go.bits .xor .i64 (Go.bits .and .i64 (rd x13_2 4) (rd x13_2 5)) (Go.bits .and .i64 (wrap64 (4294967295 - (rd x13_2 4))) (rd x13_2 6))))) + (rd l2 x14_2))) + (rd x7_1 x14_2)))).bind fun t163 => ((armadaref12_turn.f (rd x13_2 0) 2).bind fun t164 => ((armadaref12_turn.f (rd x13_2 0) 13).bind fun t165 => ((armadaref12_turn.f (rd x13_2 0) 22).bind fun t166 => (if 1 < (x13_2.length : Int) then (if 2 < (x13_2.length : Int) then ((armadaref12_mask.f (wrap64 ((Go.bits .xor .i64 (Go.bits .xor .i64 t164 t165) t166) + (Go.bits .xor .i64 (Go.bits .xor .i64 (Go.bits .and .i64 (rd x13_2 0) (rd x13_2 1)) (Go.bits .and .i64 (rd x13_2 0) (rd x13_2 2))) (Go.bits .and .i64 (rd x13_2 1) (rd x13_2 2)))))).bind fun t171 => ((armadaref12_mask.f (wrap64 (t163 + t171))).bind fun t172 => (if 3 < (x13_2.length : Int) then ((armadaref12_mask.f (wrap64 ((rd x13_2 3) + t163))).bind fun t177 => (armadaref12_rolled.l1 k2 l0 l2 x7_1 (([t172, rd x13_2 0, rd x13_2 1, rd x13_2 2, t177, rd x13_2 4, rd x13_2 5, rd x13_2 6] : List Int)) (wrap64 (x14_2 + 1)))) else (none)))) else (none)) else (none)))))) else (none)) else (none)) else (none)) else (none)) else (none)))) = some r := H
                        have A38 := Aside0.mk A380
                        clear A380
                        replace H := Option.bind_eq_some_iff.mp H
                        obtain ⟨t157, A390, H⟩ := H
                        replace H : ((armadaref12_turn.f (rd x13_2 4) 25).bind fun t158 => (if 5 < (x13_2.length : Int) then (if 6 < (x13_2.length : Int) then (if 0 ≤ x14_2 then (if x14_2 < (l2.length : Int) then (if x14_2 < (x7_1.length : Int) then ((armadaref12_mask.f (wrap64 ((wrap64 ((wrap64 ((wrap64 ((rd x13_2 7) + (Go.bits .xor .i64 (Go.bits .xor .i64 t156 t157) t158))) + (Go.bits .xor .i64 (Go.bits .and .i64 (rd x13_2 4) (rd x13_2 5)) (Go.bits .and .i64 (wrap64 (4294967295 - (rd x13_2 4))) (rd x13_2 6))))) + (rd l2 x14_2))) + (rd x7_1 x14_2)))).bind fun t163 => ((armadaref12_turn.f (rd x13_2 0) 2).bind fun t164 => ((armadaref12_turn.f (rd x13_2 0) 13).bind fun t165 => ((armadaref12_turn.f (rd x13_2 0) 22).bind fun t166 => (if 1 < (x13_2.length : Int) then (if 2 < (x13_2.length : Int) then ((armadaref12_mask.f (wrap64 ((Go.bits .xor .i64 (Go.bits .xor .i64 t164 t165) t166) + (Go.bits .xor .i64 (Go.bits .xor .i64 (Go.bits .and .i64 (rd x13_2 0) (rd x13_2 1)) (Go.bits .and .i64 (rd x13_2 0) (rd x13_2 2))) (Go.bits .and .i64 (rd x13_2 1) (rd x13_2 2)))))).bind fun t171 => ((armadaref12_mask.f (wrap64 (t163 + t171))).bind fun t172 => (if 3 < (x13_2.length : Int) then ((armadaref12_mask.f (wrap64 ((rd x13_2 3) + t163))).bind fun t177 => (armadaref12_rolled.l1 k2 l0 l2 x7_1 (([t172, rd x13_2 0, rd x13_2 1, rd x13_2 2, t177, rd x13_2 4, rd x13_2 5, rd x13_2 6] : List Int)) (wrap64 (x14_2 + 1)))) else (none)))) else (none)) else (none)))))) else (none)) else (none)) else (none)) else (none)) else (none))) = some r := H
                        have A39 := Aside0.mk A390
                        clear A390
                        replace H := Option.bind_eq_some_iff.mp H
                        obtain ⟨t158, A400, H⟩ := H
                        replace H : (if 5 < (x13_2.length : Int) then (if 6 < (x13_2.length : Int) then (if 0 ≤ x14_2 then (if x14_2 < (l2.length : Int) then (if x14_2 < (x7_1.length : Int) then ((armadaref12_mask.f (wrap64 ((wrap64 ((wrap64 ((wrap64 ((rd x13_2 7) + (Go.bits .xor .i64 (Go.bits .xor .i64 t156 t157) t158))) + (Go.bits .xor .i64 (Go.bits .and .i64 (rd x13_2 4) (rd x13_2 5)) (Go.bits .and .i64 (wrap64 (4294967295 - (rd x13_2 4))) (rd x13_2 6))))) + (rd l2 x14_2))) + (rd x7_1 x14_2)))).bind fun t163 => ((armadaref12_turn.f (rd x13_2 0) 2).bind fun t164 => ((armadaref12_turn.f (rd x13_2 0) 13).bind fun t165 => ((armadaref12_turn.f (rd x13_2 0) 22).bind fun t166 => (if 1 < (x13_2.length : Int) then (if 2 < (x13_2.length : Int) then ((armadaref12_mask.f (wrap64 ((Go.bits .xor .i64 (Go.bits .xor .i64 t164 t165) t166) + (Go.bits .xor .i64 (Go.bits .xor .i64 (Go.bits .and .i64 (rd x13_2 0) (rd x13_2 1)) (Go.bits .and .i64 (rd x13_2 0) (rd x13_2 2))) (Go.bits .and .i64 (rd x13_2 1) (rd x13_2 2)))))).bind fun t171 => ((armadaref12_mask.f (wrap64 (t163 + t171))).bind fun t172 => (if 3 < (x13_2.length : Int) then ((armadaref12_mask.f (wrap64 ((rd x13_2 3) + t163))).bind fun t177 => (armadaref12_rolled.l1 k2 l0 l2 x7_1 (([t172, rd x13_2 0, rd x13_2 1, rd x13_2 2, t177, rd x13_2 4, rd x13_2 5, rd x13_2 6] : List Int)) (wrap64 (x14_2 + 1)))) else (none)))) else (none)) else (none)))))) else (none)) else (none)) else (none)) else (none)) else (none)) = some r := H
                        have A40 := Aside0.mk A400
                        clear A400
                        by_cases c41 : 5 < (x13_2.length : Int)
                        · rw [if_pos c41] at H
                          have c41b0 : decide (5 < (x13_2.length : Int)) = true := decide_eq_true c41
                          have c41b1 : decide (5 < x13_2.length) = true := decide_eq_true (by omega)
                          clear c41
                          by_cases c42 : 6 < (x13_2.length : Int)
                          · rw [if_pos c42] at H
                            have c42b0 : decide (6 < (x13_2.length : Int)) = true := decide_eq_true c42
                            have c42b1 : decide (6 < x13_2.length) = true := decide_eq_true (by omega)
                            clear c42
                            by_cases c43 : 0 ≤ x14_2
                            · rw [if_pos c43] at H
                              have c43b0 : decide (0 ≤ x14_2) = true := decide_eq_true c43
                              clear c43
                              by_cases c44 : x14_2 < (l2.length : Int)
                              · rw [if_pos c44] at H
                                have c44b0 : decide (x14_2 < (l2.length : Int)) = true := decide_eq_true c44
                                clear c44
                                by_cases c45 : x14_2 < (x7_1.length : Int)
                                · rw [if_pos c45] at H
                                  have c45b0 : decide (x14_2 < (x7_1.length : Int)) = true := decide_eq_true c45
                                  clear c45
                                  replace H := Option.bind_eq_some_iff.mp H
                                  obtain ⟨t163, A460, H⟩ := H
                                  replace H : ((armadaref12_turn.f (rd x13_2 0) 2).bind fun t164 => ((armadaref12_turn.f (rd x13_2 0) 13).bind fun t165 => ((armadaref12_turn.f (rd x13_2 0) 22).bind fun t166 => (if 1 < (x13_2.length : Int) then (if 2 < (x13_2.length : Int) then ((armadaref12_mask.f (wrap64 ((Go.bits .xor .i64 (Go.bits .xor .i64 t164 t165) t166) + (Go.bits .xor .i64 (Go.bits .xor .i64 (Go.bits .and .i64 (rd x13_2 0) (rd x13_2 1)) (Go.bits .and .i64 (rd x13_2 0) (rd x13_2 2))) (Go.bits .and .i64 (rd x13_2 1) (rd x13_2 2)))))).bind fun t171 => ((armadaref12_mask.f (wrap64 (t163 + t171))).bind fun t172 => (if 3 < (x13_2.length : Int) then ((armadaref12_mask.f (wrap64 ((rd x13_2 3) + t163))).bind fun t177 => (armadaref12_rolled.l1 k2 l0 l2 x7_1 (([t172, rd x13_2 0, rd x13_2 1, rd x13_2 2, t177, rd x13_2 4, rd x13_2 5, rd x13_2 6] : List Int)) (wrap64 (x14_2 + 1)))) else (none)))) else (none)) else (none))))) = some r := H
                                  have A46 := Aside0.mk A460
                                  clear A460
                                  replace H := Option.bind_eq_some_iff.mp H
                                  obtain ⟨t164, A470, H⟩ := H
                                  replace H : ((armadaref12_turn.f (rd x13_2 0) 13).bind fun t165 => ((armadaref12_turn.f (rd x13_2 0) 22).bind fun t166 => (if 1 < (x13_2.length : Int) then (if 2 < (x13_2.length : Int) then ((armadaref12_mask.f (wrap64 ((Go.bits .xor .i64 (Go.bits .xor .i64 t164 t165) t166) + (Go.bits .xor .i64 (Go.bits .xor .i64 (Go.bits .and .i64 (rd x13_2 0) (rd x13_2 1)) (Go.bits .and .i64 (rd x13_2 0) (rd x13_2 2))) (Go.bits .and .i64 (rd x13_2 1) (rd x13_2 2)))))).bind fun t171 => ((armadaref12_mask.f (wrap64 (t163 + t171))).bind fun t172 => (if 3 < (x13_2.length : Int) then ((armadaref12_mask.f (wrap64 ((rd x13_2 3) + t163))).bind fun t177 => (armadaref12_rolled.l1 k2 l0 l2 x7_1 (([t172, rd x13_2 0, rd x13_2 1, rd x13_2 2, t177, rd x13_2 4, rd x13_2 5, rd x13_2 6] : List Int)) (wrap64 (x14_2 + 1)))) else (none)))) else (none)) else (none)))) = some r := H
                                  have A47 := Aside0.mk A470
                                  clear A470
                                  replace H := Option.bind_eq_some_iff.mp H
                                  obtain ⟨t165, A480, H⟩ := H
                                  replace H : ((armadaref12_turn.f (rd x13_2 0) 22).bind fun t166 => (if 1 < (x13_2.length : Int) then (if 2 < (x13_2.length : Int) then ((armadaref12_mask.f (wrap64 ((Go.bits .xor .i64 (Go.bits .xor .i64 t164 t165) t166) + (Go.bits .xor .i64 (Go.bits .xor .i64 (Go.bits .and .i64 (rd x13_2 0) (rd x13_2 1)) (Go.bits .and .i64 (rd x13_2 0) (rd x13_2 2))) (Go.bits .and .i64 (rd x13_2 1) (rd x13_2 2)))))).bind fun t171 => ((armadaref12_mask.f (wrap64 (t163 + t171))).bind fun t172 => (if 3 < (x13_2.length : Int) then ((armadaref12_mask.f (wrap64 ((rd x13_2 3) + t163))).bind fun t177 => (armadaref12_rolled.l1 k2 l0 l2 x7_1 (([t172, rd x13_2 0, rd x13_2 1, rd x13_2 2, t177, rd x13_2 4, rd x13_2 5, rd x13_2 6] : List Int)) (wrap64 (x14_2 + 1)))) else (none)))) else (none)) else (none))) = some r := H
                                  have A48 := Aside0.mk A480
                                  clear A480
                                  replace H := Option.bind_eq_some_iff.mp H
                                  obtain ⟨t166, A490, H⟩ := H
                                  replace H : (if 1 < (x13_2.length : Int) then (if 2 < (x13_2.length : Int) then ((armadaref12_mask.f (wrap64 ((Go.bits .xor .i64 (Go.bits .xor .i64 t164 t165) t166) + (Go.bits .xor .i64 (Go.bits .xor .i64 (Go.bits .and .i64 (rd x13_2 0) (rd x13_2 1)) (Go.bits .and .i64 (rd x13_2 0) (rd x13_2 2))) (Go.bits .and .i64 (rd x13_2 1) (rd x13_2 2)))))).bind fun t171 => ((armadaref12_mask.f (wrap64 (t163 + t171))).bind fun t172 => (if 3 < (x13_2.length : Int) then ((armadaref12_mask.f (wrap64 ((rd x13_2 3) + t163))).bind fun t177 => (armadaref12_rolled.l1 k2 l0 l2 x7_1 (([t172, rd x13_2 0, rd x13_2 1, rd x13_2 2, t177, rd x13_2 4, rd x13_2 5, rd x13_2 6] : List Int)) (wrap64 (x14_2 + 1)))) else (none)))) else (none)) else (none)) = some r := H
                                  have A49 := Aside0.mk A490
                                  clear A490
                                  by_cases c50 : 1 < (x13_2.length : Int)
                                  · rw [if_pos c50] at H
                                    have c50b0 : decide (1 < (x13_2.length : Int)) = true := decide_eq_true c50
                                    have c50b1 : decide (1 < x13_2.length) = true := decide_eq_true (by omega)
                                    clear c50
                                    by_cases c51 : 2 < (x13_2.length : Int)
                                    · rw [if_pos c51] at H
                                      have c51b0 : decide (2 < (x13_2.length : Int)) = true := decide_eq_true c51
                                      have c51b1 : decide (2 < x13_2.length) = true := decide_eq_true (by omega)
                                      clear c51
                                      replace H := Option.bind_eq_some_iff.mp H
                                      obtain ⟨t171, A520, H⟩ := H
                                      replace H : ((armadaref12_mask.f (wrap64 (t163 + t171))).bind fun t172 => (if 3 < (x13_2.length : Int) then ((armadaref12_mask.f (wrap64 ((rd x13_2 3) + t163))).bind fun t177 => (armadaref12_rolled.l1 k2 l0 l2 x7_1 (([t172, rd x13_2 0, rd x13_2 1, rd x13_2 2, t177, rd x13_2 4, rd x13_2 5, rd x13_2 6] : List Int)) (wrap64 (x14_2 + 1)))) else (none))) = some r := H
                                      have A52 := Aside0.mk A520
                                      clear A520
                                      replace H := Option.bind_eq_some_iff.mp H
                                      obtain ⟨t172, A530, H⟩ := H
                                      replace H : (if 3 < (x13_2.length : Int) then ((armadaref12_mask.f (wrap64 ((rd x13_2 3) + t163))).bind fun t177 => (armadaref12_rolled.l1 k2 l0 l2 x7_1 (([t172, rd x13_2 0, rd x13_2 1, rd x13_2 2, t177, rd x13_2 4, rd x13_2 5, rd x13_2 6] : List Int)) (wrap64 (x14_2 + 1)))) else (none)) = some r := H
                                      have A53 := Aside0.mk A530
                                      clear A530
                                      by_cases c54 : 3 < (x13_2.length : Int)
                                      · rw [if_pos c54] at H
                                        have c54b0 : decide (3 < (x13_2.length : Int)) = true := decide_eq_true c54
                                        have c54b1 : decide (3 < x13_2.length) = true := decide_eq_true (by omega)
                                        clear c54
                                        replace H := Option.bind_eq_some_iff.mp H
                                        obtain ⟨t177, A550, H⟩ := H
                                        replace H : (armadaref12_rolled.l1 k2 l0 l2 x7_1 (([t172, rd x13_2 0, rd x13_2 1, rd x13_2 2, t177, rd x13_2 4, rd x13_2 5, rd x13_2 6] : List Int)) (wrap64 (x14_2 + 1))) = some r := H
                                        have A55 := Aside0.mk A550
                                        clear A550
                                        obtain ⟨y181, hy181⟩ : ∃ y_ : List Int, y_ = (([t172, rd x13_2 0, rd x13_2 1, rd x13_2 2, t177, rd x13_2 4, rd x13_2 5, rd x13_2 6] : List Int)) := ⟨_, rfl⟩
                                        replace H : (armadaref12_rolled.l1 k2 l0 l2 x7_1 y181 (wrap64 (x14_2 + 1))) = some r := by first | (rw [hy181]; with_reducible exact H) | (have H2_ := (Option.bind_some _ _).symm.trans H; rw [hy181]; with_reducible exact H2_) | (have H2_ := (Option.bind_some _ _).symm.trans H; with_reducible exact H2_) | with_reducible exact H | (rw [hy181]; exact H) | exact H
                                        have Ny181 := Aside0.mk hy181
                                        clear hy181
                                        have H' := Aside0.mk H
                                        clear H
                                        obtain ⟨Ao56, co56, eo56⟩ := Kd.R_slice HO_13.out
                                        subst eo56
                                        have p153 : 0 ≤ (4 : Int) := (by omega)
                                        have q153 : 4 < (x13_2.length : Int) := of_decide_eq_true (by first | (with_reducible assumption) | assumption)
                                        obtain ⟨ad153, e153, hx153_0⟩ := Kd.at_int (Kd.R_reads' HO_13.out).2.2 4 p153 q153
                                        cases e153
                                        (try simp only [show (4 : Int).toNat = 4 from rfl, Nat.reduceMul, Nat.reduceEqDiff, Go.Addr.add, ↓reduceIte] at hx153_0)
                                        have qi153 : (4 < x13_2.length) = True := eq_true (by omega)
                                        (try rw [show ((4 : Int)).toNat = 4 from rfl] at hx153_0)
                                        replace p153 := eq_true p153
                                        replace q153 := eq_true q153
                                        have p154 : 0 ≤ (0 : Int) := (by omega)
                                        have q154 : 0 < (x13_2.length : Int) := of_decide_eq_true (by first | (with_reducible assumption) | assumption)
                                        obtain ⟨ad154, e154, hx154_0⟩ := Kd.at_int (Kd.R_reads' HO_13.out).2.2 0 p154 q154
                                        obtain rfl : ad153 = ad154 := (by injection e154)
                                        have qi154 : (0 < x13_2.length) = True := eq_true (by omega)
                                        (try rw [show ((0 : Int)).toNat = 0 from rfl] at hx154_0)
                                        (try rw [Addr.add_zero'] at hx154_0)
                                        replace p154 := eq_true p154
                                        replace q154 := eq_true q154
                                        try go_wp2
                                        have n0_ := Aside0.mk (Kd.R_drew HO_7.out)
                                        have n1_ := Aside0.mk (Kd.R_drew HO_13.out)
                                        have n2_ := Aside0.mk (below_drew1 HB.out)
                                        clear HO_7
                                        clear HO_13
                                        clear HB
                                        have HO_7 := n0_
                                        have HO_13 := n1_
                                        have HB := n2_
                                        clear n0_ n1_ n2_
                                        have p155 : 0 ≤ (7 : Int) := (by omega)
                                        have q155 : 7 < (x13_2.length : Int) := of_decide_eq_true (by first | (with_reducible assumption) | assumption)
                                        obtain ⟨ad155, e155, hx155_0⟩ := Kd.at_int (Kd.R_reads' HO_13.out).2.2 7 p155 q155
                                        obtain rfl : ad153 = ad155 := (by injection e155)
                                        (try simp only [show (7 : Int).toNat = 7 from rfl, Nat.reduceMul, Nat.reduceEqDiff, Go.Addr.add, ↓reduceIte] at hx155_0)
                                        have qi155 : (7 < x13_2.length) = True := eq_true (by omega)
                                        (try rw [show ((7 : Int)).toNat = 7 from rfl] at hx155_0)
                                        replace p155 := eq_true p155
                                        replace q155 := eq_true q155
                                        have p159 : 0 ≤ (5 : Int) := (by omega)
                                        have q159 : 5 < (x13_2.length : Int) := of_decide_eq_true (by first | (with_reducible assumption) | assumption)
                                        obtain ⟨ad159, e159, hx159_0⟩ := Kd.at_int (Kd.R_reads' HO_13.out).2.2 5 p159 q159
                                        obtain rfl : ad153 = ad159 := (by injection e159)
                                        (try simp only [show (5 : Int).toNat = 5 from rfl, Nat.reduceMul, Nat.reduceEqDiff, Go.Addr.add, ↓reduceIte] at hx159_0)
                                        have qi159 : (5 < x13_2.length) = True := eq_true (by omega)
                                        (try rw [show ((5 : Int)).toNat = 5 from rfl] at hx159_0)
                                        replace p159 := eq_true p159
                                        replace q159 := eq_true q159
                                        have p160 : 0 ≤ (6 : Int) := (by omega)
                                        have q160 : 6 < (x13_2.length : Int) := of_decide_eq_true (by first | (with_reducible assumption) | assumption)
                                        obtain ⟨ad160, e160, hx160_0⟩ := Kd.at_int (Kd.R_reads' HO_13.out).2.2 6 p160 q160
                                        obtain rfl : ad153 = ad160 := (by injection e160)
                                        (try simp only [show (6 : Int).toNat = 6 from rfl, Nat.reduceMul, Nat.reduceEqDiff, Go.Addr.add, ↓reduceIte] at hx160_0)
                                        have qi160 : (6 < x13_2.length) = True := eq_true (by omega)
                                        (try rw [show ((6 : Int)).toNat = 6 from rfl] at hx160_0)
                                        replace p160 := eq_true p160
                                        replace q160 := eq_true q160
                                        have p161 : 0 ≤ (x14_2 : Int) := of_decide_eq_true (by first | (with_reducible assumption) | assumption)
                                        have q161 : x14_2 < (l2.length : Int) := of_decide_eq_true (by first | (with_reducible assumption) | assumption)
                                        obtain ⟨ad161, e161, hx161_0⟩ := Kd.at_int HR2.out x14_2 p161 q161
                                        have hw161_0 := hx161_0
                                        cases e161
                                        replace hx161_0 := (HB.out.cell (World.block_lt_of_cell? w _ hx161_0)).trans hx161_0
                                        replace p161 := eq_true p161
                                        replace q161 := eq_true q161
                                        obtain ⟨Ao58, co58, eo58⟩ := Kd.R_slice HO_7.out
                                        (first | subst eo58 | (injection eo58 with f1_ f2_ f3_; have f4_ := f1_.symm; have f5_ := f3_.symm; clear f1_ f2_ f3_; subst f4_; subst f5_))
                                        have p162 : 0 ≤ (x14_2 : Int) := of_decide_eq_true (by first | (with_reducible assumption) | assumption)
                                        have q162 : x14_2 < (x7_1.length : Int) := of_decide_eq_true (by first | (with_reducible assumption) | assumption)
                                        obtain ⟨ad162, e162, hx162_0⟩ := Kd.at_int (Kd.R_reads' HO_7.out).2.2 x14_2 p162 q162
                                        cases e162
                                        replace p162 := eq_true p162
                                        replace q162 := eq_true q162
                                        refine start_ (n := 37) (S := fun w' => w'.cell? ⟨ad153.block, ad153.off + 7, none⟩ = some (.int .i64 (rd x13_2 7)) ∧ w'.cell? ⟨ad153.block, ad153.off + 5, none⟩ = some (.int .i64 (rd x13_2 5)) ∧ w'.cell? ⟨ad153.block, ad153.off + 6, none⟩ = some (.int .i64 (rd x13_2 6)) ∧ w'.cell? (ad161.add (x14_2).toNat) = some (.int .i64 (rd l2 x14_2)) ∧ w'.cell? (ad162.add (x14_2).toNat) = some (.int .i64 (rd x7_1 x14_2))) (ds := []) #[false, false, false, false, false, false, false, false, false, false, false, false, false, false, false, false, false, false, false, false, false, false, false, false, false, false, false, false, false, false, false, false, false, false, false, false, false] (by kernel_rfl) rfl rfl ⟨hx155_0, hx159_0, hx160_0, ((HB.out.cell (World.block_lt_of_cell? w _ hw161_0)).trans hw161_0), hx162_0⟩ (fun hHeld => ?_); refine with_tabW armadaref12_rolled.tab16 armadaref12_rolled.bits16 (fun HT_ HW_ => ?_)
                                        generalize wr.drew = w57 at HO_7 HO_13 HB hx155_0 hx159_0 hx160_0 hx161_0 hx162_0 hHeld ⊢
                                        refine pure_ (i := 0) (N := some 86) (v := ?_) (a' := ?_) #[true, false, false, false, false, false, false, false, false, false, false, false, false, false, false, false, false, false, false, false, false, false, false, false, false, false, false, false, false, false, false, false, false, false, false, false, false] rfl rfl (any_of HT_.out (by kernel_rfl)) (fun _ _ _ h => h) (Or.inl ⟨by rfl, ?_⟩) ?_ ?_
                                        rotate_left
                                        · intro w'
                                          go_simp
                                          with_reducible rfl
                                        rotate_left
                                        · simp only [Act.put, List.setIfInBounds_toArray, List.set_cons_zero, List.set_cons_succ, i64_w, i32_w]
                                          rfl
                                        refine pure_ (i := 1) (N := some 87) (v := ?_) (a' := ?_) #[true, true, false, false, false, false, false, false, false, false, false, false, false, false, false, false, false, false, false, false, false, false, false, false, false, false, false, false, false, false, false, false, false, false, false, false, false] rfl rfl (any_of HT_.out (by kernel_rfl)) (fun _ _ _ h => h) (Or.inl ⟨by rfl, ?_⟩) ?_ ?_
                                        rotate_left
                                        · intro w'
                                          go_simp
                                          with_reducible rfl
                                        rotate_left
                                        · simp only [Act.put, List.setIfInBounds_toArray, List.set_cons_zero, List.set_cons_succ, i64_w, i32_w]
                                          rfl
                                        refine pure_ (i := 3) (N := some 89) (v := ?_) (a' := ?_) #[true, true, false, true, false, false, false, false, false, false, false, false, false, false, false, false, false, false, false, false, false, false, false, false, false, false, false, false, false, false, false, false, false, false, false, false, false] rfl rfl (any_of HT_.out (by kernel_rfl)) (fun _ _ _ h => h) (Or.inl ⟨by rfl, ?_⟩) ?_ ?_
                                        rotate_left
                                        · intro w'
                                          go_simp
                                          with_reducible rfl
                                        rotate_left
                                        · simp only [Act.put, List.setIfInBounds_toArray, List.set_cons_zero, List.set_cons_succ, i64_w, i32_w]
                                          rfl
                                        refine pure_ (i := 5) (N := some 91) (v := ?_) (a' := ?_) #[true, true, false, true, false, true, false, false, false, false, false, false, false, false, false, false, false, false, false, false, false, false, false, false, false, false, false, false, false, false, false, false, false, false, false, false, false] rfl rfl (any_of HT_.out (by kernel_rfl)) (fun _ _ _ h => h) (Or.inl ⟨by rfl, ?_⟩) ?_ ?_
                                        rotate_left
                                        · intro w'
                                          go_simp
                                          with_reducible rfl
                                        rotate_left
                                        · simp only [Act.put, List.setIfInBounds_toArray, List.set_cons_zero, List.set_cons_succ, i64_w, i32_w]
                                          rfl
                                        refine pure_ (i := 8) (N := some 94) (v := ?_) (a' := ?_) #[true, true, false, true, false, true, false, false, true, false, false, false, false, false, false, false, false, false, false, false, false, false, false, false, false, false, false, false, false, false, false, false, false, false, false, false, false] rfl rfl (any_of HT_.out (by kernel_rfl)) (fun _ _ _ h => h) (Or.inl ⟨by rfl, ?_⟩) ?_ ?_
                                        rotate_left
                                        · intro w'
                                          go_simp
                                          with_reducible rfl
                                        rotate_left
                                        · simp only [Act.put, List.setIfInBounds_toArray, List.set_cons_zero, List.set_cons_succ, i64_w, i32_w]
                                          rfl
                                        refine pure_ (i := 12) (N := some 98) (v := ?_) (a' := ?_) #[true, true, false, true, false, true, false, false, true, false, false, false, true, false, false, false, false, false, false, false, false, false, false, false, false, false, false, false, false, false, false, false, false, false, false, false, false] rfl rfl (any_of HT_.out (by kernel_rfl)) (fun _ _ _ h => h) (Or.inl ⟨by rfl, ?_⟩) ?_ ?_
                                        rotate_left
                                        · intro w'
                                          go_simp
                                          with_reducible rfl
                                        rotate_left
                                        · simp only [Act.put, List.setIfInBounds_toArray, List.set_cons_zero, List.set_cons_succ, i64_w, i32_w]
                                          rfl
                                        refine pure_ (i := 13) (N := some 99) (v := ?_) (a' := ?_) #[true, true, false, true, false, true, false, false, true, false, false, false, true, true, false, false, false, false, false, false, false, false, false, false, false, false, false, false, false, false, false, false, false, false, false, false, false] rfl rfl (any_of HT_.out (by kernel_rfl)) (fun _ _ _ h => h) (Or.inl ⟨by rfl, ?_⟩) ?_ ?_
                                        rotate_left
                                        · intro w'
                                          go_simp
                                          with_reducible rfl
                                        rotate_left
                                        · simp only [Act.put, List.setIfInBounds_toArray, List.set_cons_zero, List.set_cons_succ, i64_w, i32_w]
                                          rfl
                                        refine pure_ (i := 14) (N := some 100) (v := ?_) (a' := ?_) #[true, true, false, true, false, true, false, false, true, false, false, false, true, true, true, false, false, false, false, false, false, false, false, false, false, false, false, false, false, false, false, false, false, false, false, false, false] rfl rfl (any_of HT_.out (by kernel_rfl)) (fun _ _ _ h => h) (Or.inl ⟨by rfl, ?_⟩) ?_ ?_
                                        rotate_left
                                        · intro w'
                                          go_simp
                                          with_reducible rfl
                                        rotate_left
                                        · simp only [Act.put, List.setIfInBounds_toArray, List.set_cons_zero, List.set_cons_succ, i64_w, i32_w]
                                          rfl
                                        refine pure_ (i := 17) (N := some 103) (v := ?_) (a' := ?_) #[true, true, false, true, false, true, false, false, true, false, false, false, true, true, true, false, false, true, false, false, false, false, false, false, false, false, false, false, false, false, false, false, false, false, false, false, false] rfl rfl (any_of HT_.out (by kernel_rfl)) (fun _ _ _ h => h) (Or.inl ⟨by rfl, ?_⟩) ?_ ?_
                                        rotate_left
                                        · intro w'
                                          go_simp
                                          with_reducible rfl
                                        rotate_left
                                        · simp only [Act.put, List.setIfInBounds_toArray, List.set_cons_zero, List.set_cons_succ, i64_w, i32_w]
                                          rfl
                                        refine pure_ (i := 18) (N := some 104) (v := ?_) (a' := ?_) #[true, true, false, true, false, true, false, false, true, false, false, false, true, true, true, false, false, true, true, false, false, false, false, false, false, false, false, false, false, false, false, false, false, false, false, false, false] rfl rfl (any_of HT_.out (by kernel_rfl)) (fun _ _ _ h => h) (Or.inl ⟨by rfl, ?_⟩) ?_ ?_
                                        rotate_left
                                        · intro w'
                                          go_simp
                                          with_reducible rfl
                                        rotate_left
                                        · simp only [Act.put, List.setIfInBounds_toArray, List.set_cons_zero, List.set_cons_succ, i64_w, i32_w]
                                          rfl
                                        refine pure_ (i := 19) (N := some 105) (v := ?_) (a' := ?_) #[true, true, false, true, false, true, false, false, true, false, false, false, true, true, true, false, false, true, true, true, false, false, false, false, false, false, false, false, false, false, false, false, false, false, false, false, false] rfl rfl (any_of HT_.out (by kernel_rfl)) (fun _ _ _ h => h) (Or.inl ⟨by rfl, ?_⟩) ?_ ?_
                                        rotate_left
                                        · intro w'
                                          go_simp
                                          with_reducible rfl
                                        rotate_left
                                        · simp only [Act.put, List.setIfInBounds_toArray, List.set_cons_zero, List.set_cons_succ, i64_w, i32_w]
                                          rfl
                                        refine pure_ (i := 20) (N := some 106) (v := ?_) (a' := ?_) #[true, true, false, true, false, true, false, false, true, false, false, false, true, true, true, false, false, true, true, true, true, false, false, false, false, false, false, false, false, false, false, false, false, false, false, false, false] rfl rfl (any_of HT_.out (by kernel_rfl)) (fun _ _ _ h => h) (Or.inl ⟨by rfl, ?_⟩) ?_ ?_
                                        rotate_left
                                        · intro w'
                                          go_simp
                                          with_reducible rfl
                                        rotate_left
                                        · simp only [Act.put, List.setIfInBounds_toArray, List.set_cons_zero, List.set_cons_succ, i64_w, i32_w]
                                          rfl
                                        refine pure_ (i := 25) (N := some 111) (v := ?_) (a' := ?_) #[true, true, false, true, false, true, false, false, true, false, false, false, true, true, true, false, false, true, true, true, true, false, false, false, false, true, false, false, false, false, false, false, false, false, false, false, false] rfl rfl (any_of HT_.out (by kernel_rfl)) (fun _ _ _ h => h) (Or.inl ⟨by rfl, ?_⟩) ?_ ?_
                                        rotate_left
                                        · intro w'
                                          go_simp
                                          with_reducible rfl
                                        rotate_left
                                        · simp only [Act.put, List.setIfInBounds_toArray, List.set_cons_zero, List.set_cons_succ, i64_w, i32_w]
                                          rfl
                                        refine pure_ (i := 26) (N := some 112) (v := ?_) (a' := ?_) #[true, true, false, true, false, true, false, false, true, false, false, false, true, true, true, false, false, true, true, true, true, false, false, false, false, true, true, false, false, false, false, false, false, false, false, false, false] rfl rfl (any_of HT_.out (by kernel_rfl)) (fun _ _ _ h => h) (Or.inl ⟨by rfl, ?_⟩) ?_ ?_
                                        rotate_left
                                        · intro w'
                                          go_simp
                                          with_reducible rfl
                                        rotate_left
                                        · simp only [Act.put, List.setIfInBounds_toArray, List.set_cons_zero, List.set_cons_succ, i64_w, i32_w]
                                          rfl
                                        refine pure_ (i := 27) (N := some 113) (v := ?_) (a' := ?_) #[true, true, false, true, false, true, false, false, true, false, false, false, true, true, true, false, false, true, true, true, true, false, false, false, false, true, true, true, false, false, false, false, false, false, false, false, false] rfl rfl (any_of HT_.out (by kernel_rfl)) (fun _ _ _ h => h) (Or.inl ⟨by rfl, ?_⟩) ?_ ?_
                                        rotate_left
                                        · intro w'
                                          go_simp
                                          with_reducible rfl
                                        rotate_left
                                        · simp only [Act.put, List.setIfInBounds_toArray, List.set_cons_zero, List.set_cons_succ, i64_w, i32_w]
                                          rfl
                                        refine pure_ (i := 30) (N := some 116) (v := ?_) (a' := ?_) #[true, true, false, true, false, true, false, false, true, false, false, false, true, true, true, false, false, true, true, true, true, false, false, false, false, true, true, true, false, false, true, false, false, false, false, false, false] rfl rfl (any_of HT_.out (by kernel_rfl)) (fun _ _ _ h => h) (Or.inl ⟨by rfl, ?_⟩) ?_ ?_
                                        rotate_left
                                        · intro w'
                                          go_simp
                                          with_reducible rfl
                                        rotate_left
                                        · simp only [Act.put, List.setIfInBounds_toArray, List.set_cons_zero, List.set_cons_succ, i64_w, i32_w]
                                          rfl
                                        refine pure_ (i := 31) (N := some 117) (v := ?_) (a' := ?_) #[true, true, false, true, false, true, false, false, true, false, false, false, true, true, true, false, false, true, true, true, true, false, false, false, false, true, true, true, false, false, true, true, false, false, false, false, false] rfl rfl (any_of HT_.out (by kernel_rfl)) (fun _ _ _ h => h) (Or.inl ⟨by rfl, ?_⟩) ?_ ?_
                                        rotate_left
                                        · intro w'
                                          go_simp
                                          with_reducible rfl
                                        rotate_left
                                        · simp only [Act.put, List.setIfInBounds_toArray, List.set_cons_zero, List.set_cons_succ, i64_w, i32_w]
                                          rfl
                                        refine pure_ (i := 32) (N := some 118) (v := ?_) (a' := ?_) #[true, true, false, true, false, true, false, false, true, false, false, false, true, true, true, false, false, true, true, true, true, false, false, false, false, true, true, true, false, false, true, true, true, false, false, false, false] rfl rfl (any_of HT_.out (by kernel_rfl)) (fun _ _ _ h => h) (Or.inl ⟨by rfl, ?_⟩) ?_ ?_
                                        rotate_left
                                        · intro w'
                                          go_simp
                                          with_reducible rfl
                                        rotate_left
                                        · simp only [Act.put, List.setIfInBounds_toArray, List.set_cons_zero, List.set_cons_succ, i64_w, i32_w]
                                          rfl
                                        refine take_ (i := 2) (N := some 88) (v := ?_) (a' := ?_) #[true, true, true, true, false, true, false, false, true, false, false, false, true, true, true, false, false, true, true, true, true, false, false, false, false, true, true, true, false, false, true, true, true, false, false, false, false] rfl rfl (take_ofW HT_.out HW_.out (by kernel_rfl)) (fun _ _ _ h => h) (Or.inl ⟨by rfl, ?_⟩) hHeld ?_ ?_
                                        rotate_left
                                        · rintro w' ⟨s0, s1, s2, s3, s4⟩
                                          go_simp
                                          with_reducible rfl
                                        rotate_left
                                        · simp only [Act.put, List.setIfInBounds_toArray, List.set_cons_zero, List.set_cons_succ, i64_w, i32_w]
                                          rfl
                                        refine take_ (i := 15) (N := some 101) (v := ?_) (a' := ?_) #[true, true, true, true, false, true, false, false, true, false, false, false, true, true, true, true, false, true, true, true, true, false, false, false, false, true, true, true, false, false, true, true, true, false, false, false, false] rfl rfl (take_ofW HT_.out HW_.out (by kernel_rfl)) (fun _ _ _ h => h) (Or.inl ⟨by rfl, ?_⟩) hHeld ?_ ?_
                                        rotate_left
                                        · rintro w' ⟨s0, s1, s2, s3, s4⟩
                                          go_simp
                                          with_reducible rfl
                                        rotate_left
                                        · simp only [Act.put, List.setIfInBounds_toArray, List.set_cons_zero, List.set_cons_succ, i64_w, i32_w]
                                          rfl
                                        refine pure_ (i := 16) (N := some 102) (v := ?_) (a' := ?_) #[true, true, true, true, false, true, false, false, true, false, false, false, true, true, true, true, true, true, true, true, true, false, false, false, false, true, true, true, false, false, true, true, true, false, false, false, false] rfl rfl (any_of HT_.out (by kernel_rfl)) (fun _ _ _ h => h) (Or.inl ⟨by rfl, ?_⟩) ?_ ?_
                                        rotate_left
                                        · intro w'
                                          go_simp
                                          with_reducible rfl
                                        rotate_left
                                        · simp only [Act.put, List.setIfInBounds_toArray, List.set_cons_zero, List.set_cons_succ, i64_w, i32_w]
                                          rfl
                                        refine take_ (i := 21) (N := some 107) (v := ?_) (a' := ?_) #[true, true, true, true, false, true, false, false, true, false, false, false, true, true, true, true, true, true, true, true, true, true, false, false, false, true, true, true, false, false, true, true, true, false, false, false, false] rfl rfl (take_ofW HT_.out HW_.out (by kernel_rfl)) (fun _ _ _ h => h) (Or.inl ⟨by rfl, ?_⟩) hHeld ?_ ?_
                                        rotate_left
                                        · rintro w' ⟨s0, s1, s2, s3, s4⟩
                                          go_simp
                                          with_reducible rfl
                                        rotate_left
                                        · simp only [Act.put, List.setIfInBounds_toArray, List.set_cons_zero, List.set_cons_succ, i64_w, i32_w]
                                          rfl
                                        refine pure_ (i := 22) (N := some 108) (v := ?_) (a' := ?_) #[true, true, true, true, false, true, false, false, true, false, false, false, true, true, true, true, true, true, true, true, true, true, true, false, false, true, true, true, false, false, true, true, true, false, false, false, false] rfl rfl (any_of HT_.out (by kernel_rfl)) (fun _ _ _ h => h) (Or.inl ⟨by rfl, ?_⟩) ?_ ?_
                                        rotate_left
                                        · intro w'
                                          go_simp
                                          with_reducible rfl
                                        rotate_left
                                        · simp only [Act.put, List.setIfInBounds_toArray, List.set_cons_zero, List.set_cons_succ, i64_w, i32_w]
                                          rfl
                                        refine pure_ (i := 23) (N := some 109) (v := ?_) (a' := ?_) #[true, true, true, true, false, true, false, false, true, false, false, false, true, true, true, true, true, true, true, true, true, true, true, true, false, true, true, true, false, false, true, true, true, false, false, false, false] rfl rfl (any_of HT_.out (by kernel_rfl)) (fun _ _ _ h => h) (Or.inl ⟨by rfl, ?_⟩) ?_ ?_
                                        rotate_left
                                        · intro w'
                                          go_simp
                                          with_reducible rfl
                                        rotate_left
                                        · simp only [Act.put, List.setIfInBounds_toArray, List.set_cons_zero, List.set_cons_succ, i64_w, i32_w]
                                          rfl
                                        refine take_ (i := 28) (N := some 114) (v := ?_) (a' := ?_) #[true, true, true, true, false, true, false, false, true, false, false, false, true, true, true, true, true, true, true, true, true, true, true, true, false, true, true, true, true, false, true, true, true, false, false, false, false] rfl rfl (take_ofW HT_.out HW_.out (by kernel_rfl)) (fun _ _ _ h => h) (Or.inl ⟨by rfl, ?_⟩) hHeld ?_ ?_
                                        rotate_left
                                        · rintro w' ⟨s0, s1, s2, s3, s4⟩
                                          go_simp
                                          with_reducible rfl
                                        rotate_left
                                        · simp only [Act.put, List.setIfInBounds_toArray, List.set_cons_zero, List.set_cons_succ, i64_w, i32_w]
                                          rfl
                                        refine take_ (i := 33) (N := some 119) (v := ?_) (a' := ?_) #[true, true, true, true, false, true, false, false, true, false, false, false, true, true, true, true, true, true, true, true, true, true, true, true, false, true, true, true, true, false, true, true, true, true, false, false, false] rfl rfl (take_ofW HT_.out HW_.out (by kernel_rfl)) (fun _ _ _ h => h) (Or.inl ⟨by rfl, ?_⟩) hHeld ?_ ?_
                                        rotate_left
                                        · rintro w' ⟨s0, s1, s2, s3, s4⟩
                                          go_simp
                                          with_reducible rfl
                                        rotate_left
                                        · simp only [Act.put, List.setIfInBounds_toArray, List.set_cons_zero, List.set_cons_succ, i64_w, i32_w]
                                          rfl
                                        refine one_ (i := 4) (N := some 90) #[true, true, true, true, true, true, false, false, true, false, false, false, true, true, true, true, true, true, true, true, true, true, true, true, false, true, true, true, true, false, true, true, true, true, false, false, false] rfl rfl (one_of HT_.out (by kernel_rfl)) (by decide) (fun K hK => ?_)
                                        refine goes_ Try.func36 (by kernel_rfl) rfl #[.int .i64 (rd x13_2 4), .int .i64 6] (by rfl) rfl rfl (by (try simp only [List.map_toArray, List.map_cons, List.map_nil]); first | done | rfl | (simp only [List.length_drop, List.length_take]; rfl)) ?_
                                        with_reducible refine (armadaref12_turn.calls (rd x13_2 4) 6 t156 _ A38.out).mono ?_
                                        rintro e w' ⟨rfl, ⟨nd, rfl⟩⟩
                                        refine ⟨_, rfl, ?_⟩
                                        refine hK.out _ _ ⟨hHeld.1, hHeld.2.1, hHeld.2.2.1, ((HB.out.cell (World.block_lt_of_cell? w _ hw161_0)).trans hw161_0), hHeld.2.2.2.2⟩ (fun hHeld => ?_)
                                        clear hK K
                                        refine norm_ (a' := ?_) ?_ ?_
                                        rotate_left
                                        · show Act.put _ (some 90) _ = _
                                          simp only [Act.put, List.setIfInBounds_toArray, List.set_cons_zero, List.set_cons_succ, i64_w, i32_w]
                                          rfl
                                        refine one_ (i := 6) (N := some 92) #[true, true, true, true, true, true, true, false, true, false, false, false, true, true, true, true, true, true, true, true, true, true, true, true, false, true, true, true, true, false, true, true, true, true, false, false, false] rfl rfl (one_of HT_.out (by kernel_rfl)) (by decide) (fun K hK => ?_)
                                        refine goes_ Try.func36 (by kernel_rfl) rfl #[.int .i64 (rd x13_2 4), .int .i64 11] (by rfl) rfl rfl (by (try simp only [List.map_toArray, List.map_cons, List.map_nil]); first | done | rfl | (simp only [List.length_drop, List.length_take]; rfl)) ?_
                                        with_reducible refine (armadaref12_turn.calls (rd x13_2 4) 11 t157 _ A39.out).mono ?_
                                        rintro e w' ⟨rfl, ⟨nd, rfl⟩⟩
                                        refine ⟨_, rfl, ?_⟩
                                        refine hK.out _ _ ⟨hHeld.1, hHeld.2.1, hHeld.2.2.1, ((HB.out.cell (World.block_lt_of_cell? w _ hw161_0)).trans hw161_0), hHeld.2.2.2.2⟩ (fun hHeld => ?_)
                                        clear hK K
                                        refine norm_ (a' := ?_) ?_ ?_
                                        rotate_left
                                        · show Act.put _ (some 92) _ = _
                                          simp only [Act.put, List.setIfInBounds_toArray, List.set_cons_zero, List.set_cons_succ, i64_w, i32_w]
                                          rfl
                                        refine pure_ (i := 7) (N := some 93) (v := ?_) (a' := ?_) #[true, true, true, true, true, true, true, true, true, false, false, false, true, true, true, true, true, true, true, true, true, true, true, true, false, true, true, true, true, false, true, true, true, true, false, false, false] rfl rfl (any_of HT_.out (by kernel_rfl)) (fun _ _ _ h => h) (Or.inl ⟨by rfl, ?_⟩) ?_ ?_
                                        rotate_left
                                        · intro w'
                                          go_simp
                                          with_reducible rfl
                                        rotate_left
                                        · simp only [Act.put, List.setIfInBounds_toArray, List.set_cons_zero, List.set_cons_succ, i64_w, i32_w]
                                          rfl
                                        refine one_ (i := 9) (N := some 95) #[true, true, true, true, true, true, true, true, true, true, false, false, true, true, true, true, true, true, true, true, true, true, true, true, false, true, true, true, true, false, true, true, true, true, false, false, false] rfl rfl (one_of HT_.out (by kernel_rfl)) (by decide) (fun K hK => ?_)
                                        refine goes_ Try.func36 (by kernel_rfl) rfl #[.int .i64 (rd x13_2 4), .int .i64 25] (by rfl) rfl rfl (by (try simp only [List.map_toArray, List.map_cons, List.map_nil]); first | done | rfl | (simp only [List.length_drop, List.length_take]; rfl)) ?_
                                        with_reducible refine (armadaref12_turn.calls (rd x13_2 4) 25 t158 _ A40.out).mono ?_
                                        rintro e w' ⟨rfl, ⟨nd, rfl⟩⟩
                                        refine ⟨_, rfl, ?_⟩
                                        refine hK.out _ _ ⟨hHeld.1, hHeld.2.1, hHeld.2.2.1, ((HB.out.cell (World.block_lt_of_cell? w _ hw161_0)).trans hw161_0), hHeld.2.2.2.2⟩ (fun hHeld => ?_)
                                        clear hK K
                                        refine norm_ (a' := ?_) ?_ ?_
                                        rotate_left
                                        · show Act.put _ (some 95) _ = _
                                          simp only [Act.put, List.setIfInBounds_toArray, List.set_cons_zero, List.set_cons_succ, i64_w, i32_w]
                                          rfl
                                        refine pure_ (i := 10) (N := some 96) (v := ?_) (a' := ?_) #[true, true, true, true, true, true, true, true, true, true, true, false, true, true, true, true, true, true, true, true, true, true, true, true, false, true, true, true, true, false, true, true, true, true, false, false, false] rfl rfl (any_of HT_.out (by kernel_rfl)) (fun _ _ _ h => h) (Or.inl ⟨by rfl, ?_⟩) ?_ ?_
                                        rotate_left
                                        · intro w'
                                          go_simp
                                          with_reducible rfl
                                        rotate_left
                                        · simp only [Act.put, List.setIfInBounds_toArray, List.set_cons_zero, List.set_cons_succ, i64_w, i32_w]
                                          rfl
                                        refine pure_ (i := 11) (N := some 97) (v := ?_) (a' := ?_) #[true, true, true, true, true, true, true, true, true, true, true, true, true, true, true, true, true, true, true, true, true, true, true, true, false, true, true, true, true, false, true, true, true, true, false, false, false] rfl rfl (any_of HT_.out (by kernel_rfl)) (fun _ _ _ h => h) (Or.inl ⟨by rfl, ?_⟩) ?_ ?_
                                        rotate_left
                                        · intro w'
                                          go_simp
                                          with_reducible rfl
                                        rotate_left
                                        · simp only [Act.put, List.setIfInBounds_toArray, List.set_cons_zero, List.set_cons_succ, i64_w, i32_w]
                                          rfl
                                        refine pure_ (i := 24) (N := some 110) (v := ?_) (a' := ?_) #[true, true, true, true, true, true, true, true, true, true, true, true, true, true, true, true, true, true, true, true, true, true, true, true, true, true, true, true, true, false, true, true, true, true, false, false, false] rfl rfl (any_of HT_.out (by kernel_rfl)) (fun _ _ _ h => h) (Or.inl ⟨by rfl, ?_⟩) ?_ ?_
                                        rotate_left
                                        · intro w'
                                          go_simp
                                          with_reducible rfl
                                        rotate_left
                                        · simp only [Act.put, List.setIfInBounds_toArray, List.set_cons_zero, List.set_cons_succ, i64_w, i32_w]
                                          rfl
                                        refine pure_ (i := 29) (N := some 115) (v := ?_) (a' := ?_) #[true, true, true, true, true, true, true, true, true, true, true, true, true, true, true, true, true, true, true, true, true, true, true, true, true, true, true, true, true, true, true, true, true, true, false, false, false] rfl rfl (any_of HT_.out (by kernel_rfl)) (fun _ _ _ h => h) (Or.inl ⟨by rfl, ?_⟩) ?_ ?_
                                        rotate_left
                                        · intro w'
                                          go_simp
                                          with_reducible rfl
                                        rotate_left
                                        · simp only [Act.put, List.setIfInBounds_toArray, List.set_cons_zero, List.set_cons_succ, i64_w, i32_w]
                                          rfl
                                        refine pure_ (i := 34) (N := some 120) (v := ?_) (a' := ?_) #[true, true, true, true, true, true, true, true, true, true, true, true, true, true, true, true, true, true, true, true, true, true, true, true, true, true, true, true, true, true, true, true, true, true, true, false, false] rfl rfl (any_of HT_.out (by kernel_rfl)) (fun _ _ _ h => h) (Or.inl ⟨by rfl, ?_⟩) ?_ ?_
                                        rotate_left
                                        · intro w'
                                          go_simp
                                          with_reducible rfl
                                        rotate_left
                                        · simp only [Act.put, List.setIfInBounds_toArray, List.set_cons_zero, List.set_cons_succ, i64_w, i32_w]
                                          rfl
                                        refine one_ (i := 35) (N := some 121) #[true, true, true, true, true, true, true, true, true, true, true, true, true, true, true, true, true, true, true, true, true, true, true, true, true, true, true, true, true, true, true, true, true, true, true, true, false] rfl rfl (one_of HT_.out (by kernel_rfl)) (by decide) (fun K hK => ?_)
                                        refine goes_ Try.func37 (by kernel_rfl) rfl #[.int .i64 (wrap64 ((wrap64 ((wrap64 ((wrap64 ((rd x13_2 7) + (Go.bits .xor .i64 (Go.bits .xor .i64 t156 t157) t158))) + (Go.bits .xor .i64 (Go.bits .and .i64 (rd x13_2 4) (rd x13_2 5)) (Go.bits .and .i64 (wrap64 (4294967295 - (rd x13_2 4))) (rd x13_2 6))))) + (rd l2 x14_2))) + (rd x7_1 x14_2)))] (by rfl) rfl rfl (by (try simp only [List.map_toArray, List.map_cons, List.map_nil]); first | done | rfl | (simp only [List.length_drop, List.length_take]; rfl)) ?_
                                        with_reducible refine (armadaref12_mask.calls (wrap64 ((wrap64 ((wrap64 ((wrap64 ((rd x13_2 7) + (Go.bits .xor .i64 (Go.bits .xor .i64 t156 t157) t158))) + (Go.bits .xor .i64 (Go.bits .and .i64 (rd x13_2 4) (rd x13_2 5)) (Go.bits .and .i64 (wrap64 (4294967295 - (rd x13_2 4))) (rd x13_2 6))))) + (rd l2 x14_2))) + (rd x7_1 x14_2))) t163 _ A46.out).mono ?_
                                        rintro e w' ⟨rfl, ⟨nd, rfl⟩⟩
                                        refine ⟨_, rfl, ?_⟩
                                        refine hK.out _ _ ⟨hHeld.1, hHeld.2.1, hHeld.2.2.1, ((HB.out.cell (World.block_lt_of_cell? w _ hw161_0)).trans hw161_0), hHeld.2.2.2.2⟩ (fun hHeld => ?_)
                                        clear hK K
                                        refine norm_ (a' := ?_) ?_ ?_
                                        rotate_left
                                        · show Act.put _ (some 121) _ = _
                                          simp only [Act.put, List.setIfInBounds_toArray, List.set_cons_zero, List.set_cons_succ, i64_w, i32_w]
                                          rfl
                                        refine pure_ (i := 36) (N := some 17) (v := ?_) (a' := ?_) #[true, true, true, true, true, true, true, true, true, true, true, true, true, true, true, true, true, true, true, true, true, true, true, true, true, true, true, true, true, true, true, true, true, true, true, true, true] rfl rfl (any_of HT_.out (by kernel_rfl)) (fun _ _ _ h => h) (Or.inl ⟨by rfl, ?_⟩) ?_ ?_
                                        rotate_left
                                        · intro w'
                                          go_simp
                                          with_reducible rfl
                                        rotate_left
                                        · simp only [Act.put, List.setIfInBounds_toArray, List.set_cons_zero, List.set_cons_succ, i64_w, i32_w]
                                          rfl
                                        refine done_ (done_of HT_.out (by kernel_rfl)) ?_
                                        try go_wp2
                                        (try (rw [drewN_self w57]; generalize hq_ : World.drewN w57 _ = w57; have n0_ : Aside0 (Kd.R (Kd.int .i64) 3 w57 w.heap.size (fun k_ => some k_ ≠ (.slice (some ad162) x7_1.length co58 : Value).ownBlock) (.slice (some ad153) x13_2.length co56) x13_2) := ⟨by rw [← hq_]; exact (by (with_reducible repeat (first | apply Kd.R_alloc | apply Kd.R_drewN | apply Kd.R_drew)); exact HO_13.out)⟩; have n1_ : Aside0 (Kd.R (Kd.int .i64) 3 w57 w.heap.size (fun k_ => some k_ ≠ (.slice (some ad153) x13_2.length co56 : Value).ownBlock) (.slice (some ad162) x7_1.length co58) x7_1) := ⟨by rw [← hq_]; exact (by (with_reducible repeat (first | apply Kd.R_alloc | apply Kd.R_drewN | apply Kd.R_drew)); exact HO_7.out)⟩; have n2_ : Aside0 (Below w.heap.size w w57) := ⟨by rw [← hq_]; exact (by repeat (first | (with_reducible first | exact HB.out | apply below_alloc | apply pw_below_drewN | apply below_drew1) | exact HB.out))⟩; clear HO_13 HO_7 HB hq_; have HO_13 := n0_; have HO_7 := n1_; have HB := n2_; clear n0_ n1_ n2_))
                                        have n0_ := Aside0.mk (Kd.R_drew HO_7.out)
                                        have n1_ := Aside0.mk (Kd.R_drew HO_13.out)
                                        have n2_ := Aside0.mk (below_drew1 HB.out)
                                        clear HO_7
                                        clear HO_13
                                        clear HB
                                        have HO_7 := n0_
                                        have HO_13 := n1_
                                        have HB := n2_
                                        clear n0_ n1_ n2_
                                        have p167 : 0 ≤ (1 : Int) := (by omega)
                                        have q167 : 1 < (x13_2.length : Int) := of_decide_eq_true (by first | (with_reducible assumption) | assumption)
                                        obtain ⟨ad167, e167, hx167_0⟩ := Kd.at_int (Kd.R_reads' HO_13.out).2.2 1 p167 q167
                                        obtain rfl : ad153 = ad167 := (by injection e167)
                                        (try simp only [show (1 : Int).toNat = 1 from rfl, Nat.reduceMul, Nat.reduceEqDiff, Go.Addr.add, ↓reduceIte] at hx167_0)
                                        have qi167 : (1 < x13_2.length) = True := eq_true (by omega)
                                        (try rw [show ((1 : Int)).toNat = 1 from rfl] at hx167_0)
                                        replace p167 := eq_true p167
                                        replace q167 := eq_true q167
                                        have p168 : 0 ≤ (2 : Int) := (by omega)
                                        have q168 : 2 < (x13_2.length : Int) := of_decide_eq_true (by first | (with_reducible assumption) | assumption)
                                        obtain ⟨ad168, e168, hx168_0⟩ := Kd.at_int (Kd.R_reads' HO_13.out).2.2 2 p168 q168
                                        obtain rfl : ad153 = ad168 := (by injection e168)
                                        (try simp only [show (2 : Int).toNat = 2 from rfl, Nat.reduceMul, Nat.reduceEqDiff, Go.Addr.add, ↓reduceIte] at hx168_0)
                                        have qi168 : (2 < x13_2.length) = True := eq_true (by omega)
                                        (try rw [show ((2 : Int)).toNat = 2 from rfl] at hx168_0)
                                        replace p168 := eq_true p168
                                        replace q168 := eq_true q168
                                        have p169 : 0 ≤ (1 : Int) := (by omega)
                                        have q169 : 1 < (x13_2.length : Int) := of_decide_eq_true (by first | (with_reducible assumption) | assumption)
                                        obtain ⟨ad169, e169, hx169_0⟩ := Kd.at_int (Kd.R_reads' HO_13.out).2.2 1 p169 q169
                                        obtain rfl : ad153 = ad169 := (by injection e169)
                                        (try simp only [show (1 : Int).toNat = 1 from rfl, Nat.reduceMul, Nat.reduceEqDiff, Go.Addr.add, ↓reduceIte] at hx169_0)
                                        have qi169 : (1 < x13_2.length) = True := eq_true (by omega)
                                        (try rw [show ((1 : Int)).toNat = 1 from rfl] at hx169_0)
                                        replace p169 := eq_true p169
                                        replace q169 := eq_true q169
                                        have p170 : 0 ≤ (2 : Int) := (by omega)
                                        have q170 : 2 < (x13_2.length : Int) := of_decide_eq_true (by first | (with_reducible assumption) | assumption)
                                        obtain ⟨ad170, e170, hx170_0⟩ := Kd.at_int (Kd.R_reads' HO_13.out).2.2 2 p170 q170
                                        obtain rfl : ad153 = ad170 := (by injection e170)
                                        (try simp only [show (2 : Int).toNat = 2 from rfl, Nat.reduceMul, Nat.reduceEqDiff, Go.Addr.add, ↓reduceIte] at hx170_0)
                                        have qi170 : (2 < x13_2.length) = True := eq_true (by omega)
                                        (try rw [show ((2 : Int)).toNat = 2 from rfl] at hx170_0)
                                        replace p170 := eq_true p170
                                        replace q170 := eq_true q170
                                        refine start_ (n := 30) (S := fun w' => w'.cell? ⟨ad153.block, ad153.off + 1, none⟩ = some (.int .i64 (rd x13_2 1)) ∧ w'.cell? ⟨ad153.block, ad153.off + 2, none⟩ = some (.int .i64 (rd x13_2 2)) ∧ w'.cell? ⟨ad153.block, ad153.off + 1, none⟩ = some (.int .i64 (rd x13_2 1)) ∧ w'.cell? ⟨ad153.block, ad153.off + 2, none⟩ = some (.int .i64 (rd x13_2 2))) (ds := []) #[false, false, false, false, false, false, false, false, false, false, false, false, false, false, false, false, false, false, false, false, false, false, false, false, false, false, false, false, false, false] (by kernel_rfl) rfl rfl ⟨hx167_0, hx168_0, hx169_0, hx170_0⟩ (fun hHeld => ?_); refine with_tabW armadaref12_rolled.tab17 armadaref12_rolled.bits17 (fun HT_ HW_ => ?_)
                                        generalize w57.drew = w59 at HO_7 HO_13 HB hx167_0 hx168_0 hx169_0 hx170_0 hHeld ⊢
                                        refine pure_ (i := 0) (N := some 122) (v := ?_) (a' := ?_) #[true, false, false, false, false, false, false, false, false, false, false, false, false, false, false, false, false, false, false, false, false, false, false, false, false, false, false, false, false, false] rfl rfl (any_of HT_.out (by kernel_rfl)) (fun _ _ _ h => h) (Or.inl ⟨by rfl, ?_⟩) ?_ ?_
                                        rotate_left
                                        · intro w'
                                          go_simp
                                          with_reducible rfl
                                        rotate_left
                                        · simp only [Act.put, List.setIfInBounds_toArray, List.set_cons_zero, List.set_cons_succ, i64_w, i32_w]
                                          rfl
                                        refine pure_ (i := 2) (N := some 124) (v := ?_) (a' := ?_) #[true, false, true, false, false, false, false, false, false, false, false, false, false, false, false, false, false, false, false, false, false, false, false, false, false, false, false, false, false, false] rfl rfl (any_of HT_.out (by kernel_rfl)) (fun _ _ _ h => h) (Or.inl ⟨by rfl, ?_⟩) ?_ ?_
                                        rotate_left
                                        · intro w'
                                          go_simp
                                          with_reducible rfl
                                        rotate_left
                                        · simp only [Act.put, List.setIfInBounds_toArray, List.set_cons_zero, List.set_cons_succ, i64_w, i32_w]
                                          rfl
                                        refine pure_ (i := 5) (N := some 127) (v := ?_) (a' := ?_) #[true, false, true, false, false, true, false, false, false, false, false, false, false, false, false, false, false, false, false, false, false, false, false, false, false, false, false, false, false, false] rfl rfl (any_of HT_.out (by kernel_rfl)) (fun _ _ _ h => h) (Or.inl ⟨by rfl, ?_⟩) ?_ ?_
                                        rotate_left
                                        · intro w'
                                          go_simp
                                          with_reducible rfl
                                        rotate_left
                                        · simp only [Act.put, List.setIfInBounds_toArray, List.set_cons_zero, List.set_cons_succ, i64_w, i32_w]
                                          rfl
                                        refine pure_ (i := 8) (N := some 130) (v := ?_) (a' := ?_) #[true, false, true, false, false, true, false, false, true, false, false, false, false, false, false, false, false, false, false, false, false, false, false, false, false, false, false, false, false, false] rfl rfl (any_of HT_.out (by kernel_rfl)) (fun _ _ _ h => h) (Or.inl ⟨by rfl, ?_⟩) ?_ ?_
                                        rotate_left
                                        · intro w'
                                          go_simp
                                          with_reducible rfl
                                        rotate_left
                                        · simp only [Act.put, List.setIfInBounds_toArray, List.set_cons_zero, List.set_cons_succ, i64_w, i32_w]
                                          rfl
                                        refine pure_ (i := 9) (N := some 131) (v := ?_) (a' := ?_) #[true, false, true, false, false, true, false, false, true, true, false, false, false, false, false, false, false, false, false, false, false, false, false, false, false, false, false, false, false, false] rfl rfl (any_of HT_.out (by kernel_rfl)) (fun _ _ _ h => h) (Or.inl ⟨by rfl, ?_⟩) ?_ ?_
                                        rotate_left
                                        · intro w'
                                          go_simp
                                          with_reducible rfl
                                        rotate_left
                                        · simp only [Act.put, List.setIfInBounds_toArray, List.set_cons_zero, List.set_cons_succ, i64_w, i32_w]
                                          rfl
                                        refine pure_ (i := 10) (N := some 132) (v := ?_) (a' := ?_) #[true, false, true, false, false, true, false, false, true, true, true, false, false, false, false, false, false, false, false, false, false, false, false, false, false, false, false, false, false, false] rfl rfl (any_of HT_.out (by kernel_rfl)) (fun _ _ _ h => h) (Or.inl ⟨by rfl, ?_⟩) ?_ ?_
                                        rotate_left
                                        · intro w'
                                          go_simp
                                          with_reducible rfl
                                        rotate_left
                                        · simp only [Act.put, List.setIfInBounds_toArray, List.set_cons_zero, List.set_cons_succ, i64_w, i32_w]
                                          rfl
                                        refine pure_ (i := 13) (N := some 135) (v := ?_) (a' := ?_) #[true, false, true, false, false, true, false, false, true, true, true, false, false, true, false, false, false, false, false, false, false, false, false, false, false, false, false, false, false, false] rfl rfl (any_of HT_.out (by kernel_rfl)) (fun _ _ _ h => h) (Or.inl ⟨by rfl, ?_⟩) ?_ ?_
                                        rotate_left
                                        · intro w'
                                          go_simp
                                          with_reducible rfl
                                        rotate_left
                                        · simp only [Act.put, List.setIfInBounds_toArray, List.set_cons_zero, List.set_cons_succ, i64_w, i32_w]
                                          rfl
                                        refine pure_ (i := 14) (N := some 136) (v := ?_) (a' := ?_) #[true, false, true, false, false, true, false, false, true, true, true, false, false, true, true, false, false, false, false, false, false, false, false, false, false, false, false, false, false, false] rfl rfl (any_of HT_.out (by kernel_rfl)) (fun _ _ _ h => h) (Or.inl ⟨by rfl, ?_⟩) ?_ ?_
                                        rotate_left
                                        · intro w'
                                          go_simp
                                          with_reducible rfl
                                        rotate_left
                                        · simp only [Act.put, List.setIfInBounds_toArray, List.set_cons_zero, List.set_cons_succ, i64_w, i32_w]
                                          rfl
                                        refine pure_ (i := 15) (N := some 137) (v := ?_) (a' := ?_) #[true, false, true, false, false, true, false, false, true, true, true, false, false, true, true, true, false, false, false, false, false, false, false, false, false, false, false, false, false, false] rfl rfl (any_of HT_.out (by kernel_rfl)) (fun _ _ _ h => h) (Or.inl ⟨by rfl, ?_⟩) ?_ ?_
                                        rotate_left
                                        · intro w'
                                          go_simp
                                          with_reducible rfl
                                        rotate_left
                                        · simp only [Act.put, List.setIfInBounds_toArray, List.set_cons_zero, List.set_cons_succ, i64_w, i32_w]
                                          rfl
                                        refine pure_ (i := 19) (N := some 141) (v := ?_) (a' := ?_) #[true, false, true, false, false, true, false, false, true, true, true, false, false, true, true, true, false, false, false, true, false, false, false, false, false, false, false, false, false, false] rfl rfl (any_of HT_.out (by kernel_rfl)) (fun _ _ _ h => h) (Or.inl ⟨by rfl, ?_⟩) ?_ ?_
                                        rotate_left
                                        · intro w'
                                          go_simp
                                          with_reducible rfl
                                        rotate_left
                                        · simp only [Act.put, List.setIfInBounds_toArray, List.set_cons_zero, List.set_cons_succ, i64_w, i32_w]
                                          rfl
                                        refine pure_ (i := 20) (N := some 142) (v := ?_) (a' := ?_) #[true, false, true, false, false, true, false, false, true, true, true, false, false, true, true, true, false, false, false, true, true, false, false, false, false, false, false, false, false, false] rfl rfl (any_of HT_.out (by kernel_rfl)) (fun _ _ _ h => h) (Or.inl ⟨by rfl, ?_⟩) ?_ ?_
                                        rotate_left
                                        · intro w'
                                          go_simp
                                          with_reducible rfl
                                        rotate_left
                                        · simp only [Act.put, List.setIfInBounds_toArray, List.set_cons_zero, List.set_cons_succ, i64_w, i32_w]
                                          rfl
                                        refine pure_ (i := 22) (N := some 144) (v := ?_) (a' := ?_) #[true, false, true, false, false, true, false, false, true, true, true, false, false, true, true, true, false, false, false, true, true, false, true, false, false, false, false, false, false, false] rfl rfl (any_of HT_.out (by kernel_rfl)) (fun _ _ _ h => h) (Or.inl ⟨by rfl, ?_⟩) ?_ ?_
                                        rotate_left
                                        · intro w'
                                          go_simp
                                          with_reducible rfl
                                        rotate_left
                                        · simp only [Act.put, List.setIfInBounds_toArray, List.set_cons_zero, List.set_cons_succ, i64_w, i32_w]
                                          rfl
                                        refine pure_ (i := 23) (N := some 145) (v := ?_) (a' := ?_) #[true, false, true, false, false, true, false, false, true, true, true, false, false, true, true, true, false, false, false, true, true, false, true, true, false, false, false, false, false, false] rfl rfl (any_of HT_.out (by kernel_rfl)) (fun _ _ _ h => h) (Or.inl ⟨by rfl, ?_⟩) ?_ ?_
                                        rotate_left
                                        · intro w'
                                          go_simp
                                          with_reducible rfl
                                        rotate_left
                                        · simp only [Act.put, List.setIfInBounds_toArray, List.set_cons_zero, List.set_cons_succ, i64_w, i32_w]
                                          rfl
                                        refine take_ (i := 11) (N := some 133) (v := ?_) (a' := ?_) #[true, false, true, false, false, true, false, false, true, true, true, true, false, true, true, true, false, false, false, true, true, false, true, true, false, false, false, false, false, false] rfl rfl (take_ofW HT_.out HW_.out (by kernel_rfl)) (fun _ _ _ h => h) (Or.inl ⟨by rfl, ?_⟩) hHeld ?_ ?_
                                        rotate_left
                                        · rintro w' ⟨s0, s1, s2, s3⟩
                                          go_simp
                                          with_reducible rfl
                                        rotate_left
                                        · simp only [Act.put, List.setIfInBounds_toArray, List.set_cons_zero, List.set_cons_succ, i64_w, i32_w]
                                          rfl
                                        refine pure_ (i := 12) (N := some 134) (v := ?_) (a' := ?_) #[true, false, true, false, false, true, false, false, true, true, true, true, true, true, true, true, false, false, false, true, true, false, true, true, false, false, false, false, false, false] rfl rfl (any_of HT_.out (by kernel_rfl)) (fun _ _ _ h => h) (Or.inl ⟨by rfl, ?_⟩) ?_ ?_
                                        rotate_left
                                        · intro w'
                                          go_simp
                                          with_reducible rfl
                                        rotate_left
                                        · simp only [Act.put, List.setIfInBounds_toArray, List.set_cons_zero, List.set_cons_succ, i64_w, i32_w]
                                          rfl
                                        refine take_ (i := 16) (N := some 138) (v := ?_) (a' := ?_) #[true, false, true, false, false, true, false, false, true, true, true, true, true, true, true, true, true, false, false, true, true, false, true, true, false, false, false, false, false, false] rfl rfl (take_ofW HT_.out HW_.out (by kernel_rfl)) (fun _ _ _ h => h) (Or.inl ⟨by rfl, ?_⟩) hHeld ?_ ?_
                                        rotate_left
                                        · rintro w' ⟨s0, s1, s2, s3⟩
                                          go_simp
                                          with_reducible rfl
                                        rotate_left
                                        · simp only [Act.put, List.setIfInBounds_toArray, List.set_cons_zero, List.set_cons_succ, i64_w, i32_w]
                                          rfl
                                        refine pure_ (i := 17) (N := some 139) (v := ?_) (a' := ?_) #[true, false, true, false, false, true, false, false, true, true, true, true, true, true, true, true, true, true, false, true, true, false, true, true, false, false, false, false, false, false] rfl rfl (any_of HT_.out (by kernel_rfl)) (fun _ _ _ h => h) (Or.inl ⟨by rfl, ?_⟩) ?_ ?_
                                        rotate_left
                                        · intro w'
                                          go_simp
                                          with_reducible rfl
                                        rotate_left
                                        · simp only [Act.put, List.setIfInBounds_toArray, List.set_cons_zero, List.set_cons_succ, i64_w, i32_w]
                                          rfl
                                        refine pure_ (i := 18) (N := some 140) (v := ?_) (a' := ?_) #[true, false, true, false, false, true, false, false, true, true, true, true, true, true, true, true, true, true, true, true, true, false, true, true, false, false, false, false, false, false] rfl rfl (any_of HT_.out (by kernel_rfl)) (fun _ _ _ h => h) (Or.inl ⟨by rfl, ?_⟩) ?_ ?_
                                        rotate_left
                                        · intro w'
                                          go_simp
                                          with_reducible rfl
                                        rotate_left
                                        · simp only [Act.put, List.setIfInBounds_toArray, List.set_cons_zero, List.set_cons_succ, i64_w, i32_w]
                                          rfl
                                        refine take_ (i := 21) (N := some 143) (v := ?_) (a' := ?_) #[true, false, true, false, false, true, false, false, true, true, true, true, true, true, true, true, true, true, true, true, true, true, true, true, false, false, false, false, false, false] rfl rfl (take_ofW HT_.out HW_.out (by kernel_rfl)) (fun _ _ _ h => h) (Or.inl ⟨by rfl, ?_⟩) hHeld ?_ ?_
                                        rotate_left
                                        · rintro w' ⟨s0, s1, s2, s3⟩
                                          go_simp
                                          with_reducible rfl
                                        rotate_left
                                        · simp only [Act.put, List.setIfInBounds_toArray, List.set_cons_zero, List.set_cons_succ, i64_w, i32_w]
                                          rfl
                                        refine take_ (i := 24) (N := some 146) (v := ?_) (a' := ?_) #[true, false, true, false, false, true, false, false, true, true, true, true, true, true, true, true, true, true, true, true, true, true, true, true, true, false, false, false, false, false] rfl rfl (take_ofW HT_.out HW_.out (by kernel_rfl)) (fun _ _ _ h => h) (Or.inl ⟨by rfl, ?_⟩) hHeld ?_ ?_
                                        rotate_left
                                        · rintro w' ⟨s0, s1, s2, s3⟩
                                          go_simp
                                          with_reducible rfl
                                        rotate_left
                                        · simp only [Act.put, List.setIfInBounds_toArray, List.set_cons_zero, List.set_cons_succ, i64_w, i32_w]
                                          rfl
                                        refine pure_ (i := 25) (N := some 147) (v := ?_) (a' := ?_) #[true, false, true, false, false, true, false, false, true, true, true, true, true, true, true, true, true, true, true, true, true, true, true, true, true, true, false, false, false, false] rfl rfl (any_of HT_.out (by kernel_rfl)) (fun _ _ _ h => h) (Or.inl ⟨by rfl, ?_⟩) ?_ ?_
                                        rotate_left
                                        · intro w'
                                          go_simp
                                          with_reducible rfl
                                        rotate_left
                                        · simp only [Act.put, List.setIfInBounds_toArray, List.set_cons_zero, List.set_cons_succ, i64_w, i32_w]
                                          rfl
                                        refine pure_ (i := 26) (N := some 148) (v := ?_) (a' := ?_) #[true, false, true, false, false, true, false, false, true, true, true, true, true, true, true, true, true, true, true, true, true, true, true, true, true, true, true, false, false, false] rfl rfl (any_of HT_.out (by kernel_rfl)) (fun _ _ _ h => h) (Or.inl ⟨by rfl, ?_⟩) ?_ ?_
                                        rotate_left
                                        · intro w'
                                          go_simp
                                          with_reducible rfl
                                        rotate_left
                                        · simp only [Act.put, List.setIfInBounds_toArray, List.set_cons_zero, List.set_cons_succ, i64_w, i32_w]
                                          rfl
                                        refine one_ (i := 1) (N := some 123) #[true, true, true, false, false, true, false, false, true, true, true, true, true, true, true, true, true, true, true, true, true, true, true, true, true, true, true, false, false, false] rfl rfl (one_of HT_.out (by kernel_rfl)) (by decide) (fun K hK => ?_)
                                        refine goes_ Try.func36 (by kernel_rfl) rfl #[.int .i64 (rd x13_2 0), .int .i64 2] (by rfl) rfl rfl (by (try simp only [List.map_toArray, List.map_cons, List.map_nil]); first | done | rfl | (simp only [List.length_drop, List.length_take]; rfl)) ?_
                                        with_reducible refine (armadaref12_turn.calls (rd x13_2 0) 2 t164 _ A47.out).mono ?_
                                        rintro e w' ⟨rfl, ⟨nd, rfl⟩⟩
                                        refine ⟨_, rfl, ?_⟩
                                        refine hK.out _ _ ⟨hHeld.1, hHeld.2.1, hHeld.2.2.1, hHeld.2.2.2⟩ (fun hHeld => ?_)
                                        clear hK K
                                        refine norm_ (a' := ?_) ?_ ?_
                                        rotate_left
                                        · show Act.put _ (some 123) _ = _
                                          simp only [Act.put, List.setIfInBounds_toArray, List.set_cons_zero, List.set_cons_succ, i64_w, i32_w]
                                          rfl
                                        refine one_ (i := 3) (N := some 125) #[true, true, true, true, false, true, false, false, true, true, true, true, true, true, true, true, true, true, true, true, true, true, true, true, true, true, true, false, false, false] rfl rfl (one_of HT_.out (by kernel_rfl)) (by decide) (fun K hK => ?_)
                                        refine goes_ Try.func36 (by kernel_rfl) rfl #[.int .i64 (rd x13_2 0), .int .i64 13] (by rfl) rfl rfl (by (try simp only [List.map_toArray, List.map_cons, List.map_nil]); first | done | rfl | (simp only [List.length_drop, List.length_take]; rfl)) ?_
                                        with_reducible refine (armadaref12_turn.calls (rd x13_2 0) 13 t165 _ A48.out).mono ?_
                                        rintro e w' ⟨rfl, ⟨nd, rfl⟩⟩
                                        refine ⟨_, rfl, ?_⟩
                                        refine hK.out _ _ ⟨hHeld.1, hHeld.2.1, hHeld.2.2.1, hHeld.2.2.2⟩ (fun hHeld => ?_)
                                        clear hK K
                                        refine norm_ (a' := ?_) ?_ ?_
                                        rotate_left
                                        · show Act.put _ (some 125) _ = _
                                          simp only [Act.put, List.setIfInBounds_toArray, List.set_cons_zero, List.set_cons_succ, i64_w, i32_w]
                                          rfl
                                        refine pure_ (i := 4) (N := some 126) (v := ?_) (a' := ?_) #[true, true, true, true, true, true, false, false, true, true, true, true, true, true, true, true, true, true, true, true, true, true, true, true, true, true, true, false, false, false] rfl rfl (any_of HT_.out (by kernel_rfl)) (fun _ _ _ h => h) (Or.inl ⟨by rfl, ?_⟩) ?_ ?_
                                        rotate_left
                                        · intro w'
                                          go_simp
                                          with_reducible rfl
                                        rotate_left
                                        · simp only [Act.put, List.setIfInBounds_toArray, List.set_cons_zero, List.set_cons_succ, i64_w, i32_w]
                                          rfl
                                        refine one_ (i := 6) (N := some 128) #[true, true, true, true, true, true, true, false, true, true, true, true, true, true, true, true, true, true, true, true, true, true, true, true, true, true, true, false, false, false] rfl rfl (one_of HT_.out (by kernel_rfl)) (by decide) (fun K hK => ?_)
                                        refine goes_ Try.func36 (by kernel_rfl) rfl #[.int .i64 (rd x13_2 0), .int .i64 22] (by rfl) rfl rfl (by (try simp only [List.map_toArray, List.map_cons, List.map_nil]); first | done | rfl | (simp only [List.length_drop, List.length_take]; rfl)) ?_
                                        with_reducible refine (armadaref12_turn.calls (rd x13_2 0) 22 t166 _ A49.out).mono ?_
                                        rintro e w' ⟨rfl, ⟨nd, rfl⟩⟩
                                        refine ⟨_, rfl, ?_⟩
                                        refine hK.out _ _ ⟨hHeld.1, hHeld.2.1, hHeld.2.2.1, hHeld.2.2.2⟩ (fun hHeld => ?_)
                                        clear hK K
                                        refine norm_ (a' := ?_) ?_ ?_
                                        rotate_left
                                        · show Act.put _ (some 128) _ = _
                                          simp only [Act.put, List.setIfInBounds_toArray, List.set_cons_zero, List.set_cons_succ, i64_w, i32_w]
                                          rfl
                                        refine pure_ (i := 7) (N := some 129) (v := ?_) (a' := ?_) #[true, true, true, true, true, true, true, true, true, true, true, true, true, true, true, true, true, true, true, true, true, true, true, true, true, true, true, false, false, false] rfl rfl (any_of HT_.out (by kernel_rfl)) (fun _ _ _ h => h) (Or.inl ⟨by rfl, ?_⟩) ?_ ?_
                                        rotate_left
                                        · intro w'
                                          go_simp
                                          with_reducible rfl
                                        rotate_left
                                        · simp only [Act.put, List.setIfInBounds_toArray, List.set_cons_zero, List.set_cons_succ, i64_w, i32_w]
                                          rfl
                                        refine pure_ (i := 27) (N := some 149) (v := ?_) (a' := ?_) #[true, true, true, true, true, true, true, true, true, true, true, true, true, true, true, true, true, true, true, true, true, true, true, true, true, true, true, true, false, false] rfl rfl (any_of HT_.out (by kernel_rfl)) (fun _ _ _ h => h) (Or.inl ⟨by rfl, ?_⟩) ?_ ?_
                                        rotate_left
                                        · intro w'
                                          go_simp
                                          with_reducible rfl
                                        rotate_left
                                        · simp only [Act.put, List.setIfInBounds_toArray, List.set_cons_zero, List.set_cons_succ, i64_w, i32_w]
                                          rfl
                                        refine one_ (i := 28) (N := some 150) #[true, true, true, true, true, true, true, true, true, true, true, true, true, true, true, true, true, true, true, true, true, true, true, true, true, true, true, true, true, false] rfl rfl (one_of HT_.out (by kernel_rfl)) (by decide) (fun K hK => ?_)
                                        refine goes_ Try.func37 (by kernel_rfl) rfl #[.int .i64 (wrap64 ((Go.bits .xor .i64 (Go.bits .xor .i64 t164 t165) t166) + (Go.bits .xor .i64 (Go.bits .xor .i64 (Go.bits .and .i64 (rd x13_2 0) (rd x13_2 1)) (Go.bits .and .i64 (rd x13_2 0) (rd x13_2 2))) (Go.bits .and .i64 (rd x13_2 1) (rd x13_2 2)))))] (by rfl) rfl rfl (by (try simp only [List.map_toArray, List.map_cons, List.map_nil]); first | done | rfl | (simp only [List.length_drop, List.length_take]; rfl)) ?_
                                        with_reducible refine (armadaref12_mask.calls (wrap64 ((Go.bits .xor .i64 (Go.bits .xor .i64 t164 t165) t166) + (Go.bits .xor .i64 (Go.bits .xor .i64 (Go.bits .and .i64 (rd x13_2 0) (rd x13_2 1)) (Go.bits .and .i64 (rd x13_2 0) (rd x13_2 2))) (Go.bits .and .i64 (rd x13_2 1) (rd x13_2 2))))) t171 _ A52.out).mono ?_
                                        rintro e w' ⟨rfl, ⟨nd, rfl⟩⟩
                                        refine ⟨_, rfl, ?_⟩
                                        refine hK.out _ _ ⟨hHeld.1, hHeld.2.1, hHeld.2.2.1, hHeld.2.2.2⟩ (fun hHeld => ?_)
                                        clear hK K
                                        refine norm_ (a' := ?_) ?_ ?_
                                        rotate_left
                                        · show Act.put _ (some 150) _ = _
                                          simp only [Act.put, List.setIfInBounds_toArray, List.set_cons_zero, List.set_cons_succ, i64_w, i32_w]
                                          rfl
                                        refine pure_ (i := 29) (N := some 18) (v := ?_) (a' := ?_) #[true, true, true, true, true, true, true, true, true, true, true, true, true, true, true, true, true, true, true, true, true, true, true, true, true, true, true, true, true, true] rfl rfl (any_of HT_.out (by kernel_rfl)) (fun _ _ _ h => h) (Or.inl ⟨by rfl, ?_⟩) ?_ ?_
                                        rotate_left
                                        · intro w'
                                          go_simp
                                          with_reducible rfl
                                        rotate_left
                                        · simp only [Act.put, List.setIfInBounds_toArray, List.set_cons_zero, List.set_cons_succ, i64_w, i32_w]
                                          rfl
                                        refine done_ (done_of HT_.out (by kernel_rfl)) ?_
                                        try go_wp2
                                        (try (rw [drewN_self w59]; generalize hq_ : World.drewN w59 _ = w59; have n0_ : Aside0 (Kd.R (Kd.int .i64) 3 w59 w.heap.size (fun k_ => some k_ ≠ (.slice (some ad162) x7_1.length co58 : Value).ownBlock) (.slice (some ad153) x13_2.length co56) x13_2) := ⟨by rw [← hq_]; exact (by (with_reducible repeat (first | apply Kd.R_alloc | apply Kd.R_drewN | apply Kd.R_drew)); exact HO_13.out)⟩; have n1_ : Aside0 (Kd.R (Kd.int .i64) 3 w59 w.heap.size (fun k_ => some k_ ≠ (.slice (some ad153) x13_2.length co56 : Value).ownBlock) (.slice (some ad162) x7_1.length co58) x7_1) := ⟨by rw [← hq_]; exact (by (with_reducible repeat (first | apply Kd.R_alloc | apply Kd.R_drewN | apply Kd.R_drew)); exact HO_7.out)⟩; have n2_ : Aside0 (Below w.heap.size w w59) := ⟨by rw [← hq_]; exact (by repeat (first | (with_reducible first | exact HB.out | apply below_alloc | apply pw_below_drewN | apply below_drew1) | exact HB.out))⟩; clear HO_13 HO_7 HB hq_; have HO_13 := n0_; have HO_7 := n1_; have HB := n2_; clear n0_ n1_ n2_))
                                        have n0_ := Aside0.mk (Kd.R_drew HO_7.out)
                                        have n1_ := Aside0.mk (Kd.R_drew HO_13.out)
                                        have n2_ := Aside0.mk (below_drew1 HB.out)
                                        clear HO_7
                                        clear HO_13
                                        clear HB
                                        have HO_7 := n0_
                                        have HO_13 := n1_
                                        have HB := n2_
                                        clear n0_ n1_ n2_
                                        have p173 : 0 ≤ (0 : Int) := (by omega)
                                        have q173 : 0 < (x13_2.length : Int) := of_decide_eq_true (by first | (with_reducible assumption) | assumption)
                                        obtain ⟨ad173, e173, hx173_0⟩ := Kd.at_int (Kd.R_reads' HO_13.out).2.2 0 p173 q173
                                        obtain rfl : ad153 = ad173 := (by injection e173)
                                        have qi173 : (0 < x13_2.length) = True := eq_true (by omega)
                                        (try rw [show ((0 : Int)).toNat = 0 from rfl] at hx173_0)
                                        (try rw [Addr.add_zero'] at hx173_0)
                                        replace p173 := eq_true p173
                                        replace q173 := eq_true q173
                                        have p174 : 0 ≤ (1 : Int) := (by omega)
                                        have q174 : 1 < (x13_2.length : Int) := of_decide_eq_true (by first | (with_reducible assumption) | assumption)
                                        obtain ⟨ad174, e174, hx174_0⟩ := Kd.at_int (Kd.R_reads' HO_13.out).2.2 1 p174 q174
                                        obtain rfl : ad153 = ad174 := (by injection e174)
                                        (try simp only [show (1 : Int).toNat = 1 from rfl, Nat.reduceMul, Nat.reduceEqDiff, Go.Addr.add, ↓reduceIte] at hx174_0)
                                        have qi174 : (1 < x13_2.length) = True := eq_true (by omega)
                                        (try rw [show ((1 : Int)).toNat = 1 from rfl] at hx174_0)
                                        replace p174 := eq_true p174
                                        replace q174 := eq_true q174
                                        have p175 : 0 ≤ (2 : Int) := (by omega)
                                        have q175 : 2 < (x13_2.length : Int) := of_decide_eq_true (by first | (with_reducible assumption) | assumption)
                                        obtain ⟨ad175, e175, hx175_0⟩ := Kd.at_int (Kd.R_reads' HO_13.out).2.2 2 p175 q175
                                        obtain rfl : ad153 = ad175 := (by injection e175)
                                        (try simp only [show (2 : Int).toNat = 2 from rfl, Nat.reduceMul, Nat.reduceEqDiff, Go.Addr.add, ↓reduceIte] at hx175_0)
                                        have qi175 : (2 < x13_2.length) = True := eq_true (by omega)
                                        (try rw [show ((2 : Int)).toNat = 2 from rfl] at hx175_0)
                                        replace p175 := eq_true p175
                                        replace q175 := eq_true q175
                                        have p176 : 0 ≤ (3 : Int) := (by omega)
                                        have q176 : 3 < (x13_2.length : Int) := of_decide_eq_true (by first | (with_reducible assumption) | assumption)
                                        obtain ⟨ad176, e176, hx176_0⟩ := Kd.at_int (Kd.R_reads' HO_13.out).2.2 3 p176 q176
                                        obtain rfl : ad153 = ad176 := (by injection e176)
                                        (try simp only [show (3 : Int).toNat = 3 from rfl, Nat.reduceMul, Nat.reduceEqDiff, Go.Addr.add, ↓reduceIte] at hx176_0)
                                        have qi176 : (3 < x13_2.length) = True := eq_true (by omega)
                                        (try rw [show ((3 : Int)).toNat = 3 from rfl] at hx176_0)
                                        replace p176 := eq_true p176
                                        replace q176 := eq_true q176
                                        have p178 : 0 ≤ (4 : Int) := (by omega)
                                        have q178 : 4 < (x13_2.length : Int) := of_decide_eq_true (by first | (with_reducible assumption) | assumption)
                                        obtain ⟨ad178, e178, hx178_0⟩ := Kd.at_int (Kd.R_reads' HO_13.out).2.2 4 p178 q178
                                        obtain rfl : ad153 = ad178 := (by injection e178)
                                        (try simp only [show (4 : Int).toNat = 4 from rfl, Nat.reduceMul, Nat.reduceEqDiff, Go.Addr.add, ↓reduceIte] at hx178_0)
                                        have qi178 : (4 < x13_2.length) = True := eq_true (by omega)
                                        (try rw [show ((4 : Int)).toNat = 4 from rfl] at hx178_0)
                                        replace p178 := eq_true p178
                                        replace q178 := eq_true q178
                                        have p179 : 0 ≤ (5 : Int) := (by omega)
                                        have q179 : 5 < (x13_2.length : Int) := of_decide_eq_true (by first | (with_reducible assumption) | assumption)
                                        obtain ⟨ad179, e179, hx179_0⟩ := Kd.at_int (Kd.R_reads' HO_13.out).2.2 5 p179 q179
                                        obtain rfl : ad153 = ad179 := (by injection e179)
                                        (try simp only [show (5 : Int).toNat = 5 from rfl, Nat.reduceMul, Nat.reduceEqDiff, Go.Addr.add, ↓reduceIte] at hx179_0)
                                        have qi179 : (5 < x13_2.length) = True := eq_true (by omega)
                                        (try rw [show ((5 : Int)).toNat = 5 from rfl] at hx179_0)
                                        replace p179 := eq_true p179
                                        replace q179 := eq_true q179
                                        have p180 : 0 ≤ (6 : Int) := (by omega)
                                        have q180 : 6 < (x13_2.length : Int) := of_decide_eq_true (by first | (with_reducible assumption) | assumption)
                                        obtain ⟨ad180, e180, hx180_0⟩ := Kd.at_int (Kd.R_reads' HO_13.out).2.2 6 p180 q180
                                        obtain rfl : ad153 = ad180 := (by injection e180)
                                        (try simp only [show (6 : Int).toNat = 6 from rfl, Nat.reduceMul, Nat.reduceEqDiff, Go.Addr.add, ↓reduceIte] at hx180_0)
                                        have qi180 : (6 < x13_2.length) = True := eq_true (by omega)
                                        (try rw [show ((6 : Int)).toNat = 6 from rfl] at hx180_0)
                                        replace p180 := eq_true p180
                                        replace q180 := eq_true q180
                                        refine start_ (n := 30) (S := fun w' => w'.cell? ad153 = some (.int .i64 (rd x13_2 0)) ∧ w'.cell? ⟨ad153.block, ad153.off + 1, none⟩ = some (.int .i64 (rd x13_2 1)) ∧ w'.cell? ⟨ad153.block, ad153.off + 2, none⟩ = some (.int .i64 (rd x13_2 2)) ∧ w'.cell? ⟨ad153.block, ad153.off + 3, none⟩ = some (.int .i64 (rd x13_2 3)) ∧ w'.cell? ⟨ad153.block, ad153.off + 4, none⟩ = some (.int .i64 (rd x13_2 4)) ∧ w'.cell? ⟨ad153.block, ad153.off + 5, none⟩ = some (.int .i64 (rd x13_2 5)) ∧ w'.cell? ⟨ad153.block, ad153.off + 6, none⟩ = some (.int .i64 (rd x13_2 6))) (ds := []) #[false, false, false, false, false, false, false, false, false, false, false, false, false, false, false, false, false, false, false, false, false, false, false, false, false, false, false, false, false, false] (by kernel_rfl) rfl rfl ⟨hx173_0, hx174_0, hx175_0, hx176_0, hx178_0, hx179_0, hx180_0⟩ (fun hHeld => ?_); refine with_tabW armadaref12_rolled.tab18 armadaref12_rolled.bits18 (fun HT_ HW_ => ?_)
                                        generalize w59.drew = w60 at HO_7 HO_13 HB hx173_0 hx174_0 hx175_0 hx176_0 hx178_0 hx179_0 hx180_0 hHeld ⊢
                                        refine pure_ (i := 0) (N := some 151) (v := ?_) (a' := ?_) #[true, false, false, false, false, false, false, false, false, false, false, false, false, false, false, false, false, false, false, false, false, false, false, false, false, false, false, false, false, false] rfl rfl (any_of HT_.out (by kernel_rfl)) (fun _ _ _ h => h) (Or.inl ⟨by rfl, ?_⟩) ?_ ?_
                                        rotate_left
                                        · intro w'
                                          go_simp
                                          with_reducible rfl
                                        rotate_left
                                        · simp only [Act.put, List.setIfInBounds_toArray, List.set_cons_zero, List.set_cons_succ, i64_w, i32_w]
                                          rfl
                                        refine pure_ (i := 1) (N := some 152) (v := ?_) (a' := ?_) #[true, true, false, false, false, false, false, false, false, false, false, false, false, false, false, false, false, false, false, false, false, false, false, false, false, false, false, false, false, false] rfl rfl (any_of HT_.out (by kernel_rfl)) (fun _ _ _ h => h) (Or.inl ⟨by rfl, ?_⟩) ?_ ?_
                                        rotate_left
                                        · intro w'
                                          go_simp
                                          with_reducible rfl
                                        rotate_left
                                        · simp only [Act.put, List.setIfInBounds_toArray, List.set_cons_zero, List.set_cons_succ, i64_w, i32_w]
                                          rfl
                                        refine pure_ (i := 2) (N := some 153) (v := ?_) (a' := ?_) #[true, true, true, false, false, false, false, false, false, false, false, false, false, false, false, false, false, false, false, false, false, false, false, false, false, false, false, false, false, false] rfl rfl (any_of HT_.out (by kernel_rfl)) (fun _ _ _ h => h) (Or.inl ⟨by rfl, ?_⟩) ?_ ?_
                                        rotate_left
                                        · intro w'
                                          go_simp
                                          with_reducible rfl
                                        rotate_left
                                        · simp only [Act.put, List.setIfInBounds_toArray, List.set_cons_zero, List.set_cons_succ, i64_w, i32_w]
                                          rfl
                                        refine pure_ (i := 4) (N := some 155) (v := ?_) (a' := ?_) #[true, true, true, false, true, false, false, false, false, false, false, false, false, false, false, false, false, false, false, false, false, false, false, false, false, false, false, false, false, false] rfl rfl (any_of HT_.out (by kernel_rfl)) (fun _ _ _ h => h) (Or.inl ⟨by rfl, ?_⟩) ?_ ?_
                                        rotate_left
                                        · intro w'
                                          go_simp
                                          with_reducible rfl
                                        rotate_left
                                        · simp only [Act.put, List.setIfInBounds_toArray, List.set_cons_zero, List.set_cons_succ, i64_w, i32_w]
                                          rfl
                                        refine pure_ (i := 5) (N := some 156) (v := ?_) (a' := ?_) #[true, true, true, false, true, true, false, false, false, false, false, false, false, false, false, false, false, false, false, false, false, false, false, false, false, false, false, false, false, false] rfl rfl (any_of HT_.out (by kernel_rfl)) (fun _ _ _ h => h) (Or.inl ⟨by rfl, ?_⟩) ?_ ?_
                                        rotate_left
                                        · intro w'
                                          go_simp
                                          with_reducible rfl
                                        rotate_left
                                        · simp only [Act.put, List.setIfInBounds_toArray, List.set_cons_zero, List.set_cons_succ, i64_w, i32_w]
                                          rfl
                                        refine pure_ (i := 7) (N := some 158) (v := ?_) (a' := ?_) #[true, true, true, false, true, true, false, true, false, false, false, false, false, false, false, false, false, false, false, false, false, false, false, false, false, false, false, false, false, false] rfl rfl (any_of HT_.out (by kernel_rfl)) (fun _ _ _ h => h) (Or.inl ⟨by rfl, ?_⟩) ?_ ?_
                                        rotate_left
                                        · intro w'
                                          go_simp
                                          with_reducible rfl
                                        rotate_left
                                        · simp only [Act.put, List.setIfInBounds_toArray, List.set_cons_zero, List.set_cons_succ, i64_w, i32_w]
                                          rfl
                                        refine pure_ (i := 8) (N := some 159) (v := ?_) (a' := ?_) #[true, true, true, false, true, true, false, true, true, false, false, false, false, false, false, false, false, false, false, false, false, false, false, false, false, false, false, false, false, false] rfl rfl (any_of HT_.out (by kernel_rfl)) (fun _ _ _ h => h) (Or.inl ⟨by rfl, ?_⟩) ?_ ?_
                                        rotate_left
                                        · intro w'
                                          go_simp
                                          with_reducible rfl
                                        rotate_left
                                        · simp only [Act.put, List.setIfInBounds_toArray, List.set_cons_zero, List.set_cons_succ, i64_w, i32_w]
                                          rfl
                                        refine pure_ (i := 10) (N := some 161) (v := ?_) (a' := ?_) #[true, true, true, false, true, true, false, true, true, false, true, false, false, false, false, false, false, false, false, false, false, false, false, false, false, false, false, false, false, false] rfl rfl (any_of HT_.out (by kernel_rfl)) (fun _ _ _ h => h) (Or.inl ⟨by rfl, ?_⟩) ?_ ?_
                                        rotate_left
                                        · intro w'
                                          go_simp
                                          with_reducible rfl
                                        rotate_left
                                        · simp only [Act.put, List.setIfInBounds_toArray, List.set_cons_zero, List.set_cons_succ, i64_w, i32_w]
                                          rfl
                                        refine pure_ (i := 11) (N := some 162) (v := ?_) (a' := ?_) #[true, true, true, false, true, true, false, true, true, false, true, true, false, false, false, false, false, false, false, false, false, false, false, false, false, false, false, false, false, false] rfl rfl (any_of HT_.out (by kernel_rfl)) (fun _ _ _ h => h) (Or.inl ⟨by rfl, ?_⟩) ?_ ?_
                                        rotate_left
                                        · intro w'
                                          go_simp
                                          with_reducible rfl
                                        rotate_left
                                        · simp only [Act.put, List.setIfInBounds_toArray, List.set_cons_zero, List.set_cons_succ, i64_w, i32_w]
                                          rfl
                                        refine pure_ (i := 13) (N := some 164) (v := ?_) (a' := ?_) #[true, true, true, false, true, true, false, true, true, false, true, true, false, true, false, false, false, false, false, false, false, false, false, false, false, false, false, false, false, false] rfl rfl (any_of HT_.out (by kernel_rfl)) (fun _ _ _ h => h) (Or.inl ⟨by rfl, ?_⟩) ?_ ?_
                                        rotate_left
                                        · intro w'
                                          go_simp
                                          with_reducible rfl
                                        rotate_left
                                        · simp only [Act.put, List.setIfInBounds_toArray, List.set_cons_zero, List.set_cons_succ, i64_w, i32_w]
                                          rfl
                                        refine pure_ (i := 14) (N := some 165) (v := ?_) (a' := ?_) #[true, true, true, false, true, true, false, true, true, false, true, true, false, true, true, false, false, false, false, false, false, false, false, false, false, false, false, false, false, false] rfl rfl (any_of HT_.out (by kernel_rfl)) (fun _ _ _ h => h) (Or.inl ⟨by rfl, ?_⟩) ?_ ?_
                                        rotate_left
                                        · intro w'
                                          go_simp
                                          with_reducible rfl
                                        rotate_left
                                        · simp only [Act.put, List.setIfInBounds_toArray, List.set_cons_zero, List.set_cons_succ, i64_w, i32_w]
                                          rfl
                                        refine pure_ (i := 16) (N := some 167) (v := ?_) (a' := ?_) #[true, true, true, false, true, true, false, true, true, false, true, true, false, true, true, false, true, false, false, false, false, false, false, false, false, false, false, false, false, false] rfl rfl (any_of HT_.out (by kernel_rfl)) (fun _ _ _ h => h) (Or.inl ⟨by rfl, ?_⟩) ?_ ?_
                                        rotate_left
                                        · intro w'
                                          go_simp
                                          with_reducible rfl
                                        rotate_left
                                        · simp only [Act.put, List.setIfInBounds_toArray, List.set_cons_zero, List.set_cons_succ, i64_w, i32_w]
                                          rfl
                                        refine pure_ (i := 19) (N := some 170) (v := ?_) (a' := ?_) #[true, true, true, false, true, true, false, true, true, false, true, true, false, true, true, false, true, false, false, true, false, false, false, false, false, false, false, false, false, false] rfl rfl (any_of HT_.out (by kernel_rfl)) (fun _ _ _ h => h) (Or.inl ⟨by rfl, ?_⟩) ?_ ?_
                                        rotate_left
                                        · intro w'
                                          go_simp
                                          with_reducible rfl
                                        rotate_left
                                        · simp only [Act.put, List.setIfInBounds_toArray, List.set_cons_zero, List.set_cons_succ, i64_w, i32_w]
                                          rfl
                                        refine pure_ (i := 20) (N := some 171) (v := ?_) (a' := ?_) #[true, true, true, false, true, true, false, true, true, false, true, true, false, true, true, false, true, false, false, true, true, false, false, false, false, false, false, false, false, false] rfl rfl (any_of HT_.out (by kernel_rfl)) (fun _ _ _ h => h) (Or.inl ⟨by rfl, ?_⟩) ?_ ?_
                                        rotate_left
                                        · intro w'
                                          go_simp
                                          with_reducible rfl
                                        rotate_left
                                        · simp only [Act.put, List.setIfInBounds_toArray, List.set_cons_zero, List.set_cons_succ, i64_w, i32_w]
                                          rfl
                                        refine pure_ (i := 22) (N := some 173) (v := ?_) (a' := ?_) #[true, true, true, false, true, true, false, true, true, false, true, true, false, true, true, false, true, false, false, true, true, false, true, false, false, false, false, false, false, false] rfl rfl (any_of HT_.out (by kernel_rfl)) (fun _ _ _ h => h) (Or.inl ⟨by rfl, ?_⟩) ?_ ?_
                                        rotate_left
                                        · intro w'
                                          go_simp
                                          with_reducible rfl
                                        rotate_left
                                        · simp only [Act.put, List.setIfInBounds_toArray, List.set_cons_zero, List.set_cons_succ, i64_w, i32_w]
                                          rfl
                                        refine pure_ (i := 23) (N := some 174) (v := ?_) (a' := ?_) #[true, true, true, false, true, true, false, true, true, false, true, true, false, true, true, false, true, false, false, true, true, false, true, true, false, false, false, false, false, false] rfl rfl (any_of HT_.out (by kernel_rfl)) (fun _ _ _ h => h) (Or.inl ⟨by rfl, ?_⟩) ?_ ?_
                                        rotate_left
                                        · intro w'
                                          go_simp
                                          with_reducible rfl
                                        rotate_left
                                        · simp only [Act.put, List.setIfInBounds_toArray, List.set_cons_zero, List.set_cons_succ, i64_w, i32_w]
                                          rfl
                                        refine pure_ (i := 25) (N := some 176) (v := ?_) (a' := ?_) #[true, true, true, false, true, true, false, true, true, false, true, true, false, true, true, false, true, false, false, true, true, false, true, true, false, true, false, false, false, false] rfl rfl (any_of HT_.out (by kernel_rfl)) (fun _ _ _ h => h) (Or.inl ⟨by rfl, ?_⟩) ?_ ?_
                                        rotate_left
                                        · intro w'
                                          go_simp
                                          with_reducible rfl
                                        rotate_left
                                        · simp only [Act.put, List.setIfInBounds_toArray, List.set_cons_zero, List.set_cons_succ, i64_w, i32_w]
                                          rfl
                                        refine pure_ (i := 26) (N := some 177) (v := ?_) (a' := ?_) #[true, true, true, false, true, true, false, true, true, false, true, true, false, true, true, false, true, false, false, true, true, false, true, true, false, true, true, false, false, false] rfl rfl (any_of HT_.out (by kernel_rfl)) (fun _ _ _ h => h) (Or.inl ⟨by rfl, ?_⟩) ?_ ?_
                                        rotate_left
                                        · intro w'
                                          go_simp
                                          with_reducible rfl
                                        rotate_left
                                        · simp only [Act.put, List.setIfInBounds_toArray, List.set_cons_zero, List.set_cons_succ, i64_w, i32_w]
                                          rfl
                                        refine take_ (i := 6) (N := some 157) (v := ?_) (a' := ?_) #[true, true, true, false, true, true, true, true, true, false, true, true, false, true, true, false, true, false, false, true, true, false, true, true, false, true, true, false, false, false] rfl rfl (take_ofW HT_.out HW_.out (by kernel_rfl)) (fun _ _ _ h => h) (Or.inl ⟨by rfl, ?_⟩) hHeld ?_ ?_
                                        rotate_left
                                        · rintro w' ⟨s0, s1, s2, s3, s4, s5, s6⟩
                                          go_simp
                                          with_reducible rfl
                                        rotate_left
                                        · simp only [Act.put, List.setIfInBounds_toArray, List.set_cons_zero, List.set_cons_succ, i64_w, i32_w]
                                          rfl
                                        refine take_ (i := 9) (N := some 160) (v := ?_) (a' := ?_) #[true, true, true, false, true, true, true, true, true, true, true, true, false, true, true, false, true, false, false, true, true, false, true, true, false, true, true, false, false, false] rfl rfl (take_ofW HT_.out HW_.out (by kernel_rfl)) (fun _ _ _ h => h) (Or.inl ⟨by rfl, ?_⟩) hHeld ?_ ?_
                                        rotate_left
                                        · rintro w' ⟨s0, s1, s2, s3, s4, s5, s6⟩
                                          go_simp
                                          with_reducible rfl
                                        rotate_left
                                        · simp only [Act.put, List.setIfInBounds_toArray, List.set_cons_zero, List.set_cons_succ, i64_w, i32_w]
                                          rfl
                                        refine take_ (i := 12) (N := some 163) (v := ?_) (a' := ?_) #[true, true, true, false, true, true, true, true, true, true, true, true, true, true, true, false, true, false, false, true, true, false, true, true, false, true, true, false, false, false] rfl rfl (take_ofW HT_.out HW_.out (by kernel_rfl)) (fun _ _ _ h => h) (Or.inl ⟨by rfl, ?_⟩) hHeld ?_ ?_
                                        rotate_left
                                        · rintro w' ⟨s0, s1, s2, s3, s4, s5, s6⟩
                                          go_simp
                                          with_reducible rfl
                                        rotate_left
                                        · simp only [Act.put, List.setIfInBounds_toArray, List.set_cons_zero, List.set_cons_succ, i64_w, i32_w]
                                          rfl
                                        refine take_ (i := 15) (N := some 166) (v := ?_) (a' := ?_) #[true, true, true, false, true, true, true, true, true, true, true, true, true, true, true, true, true, false, false, true, true, false, true, true, false, true, true, false, false, false] rfl rfl (take_ofW HT_.out HW_.out (by kernel_rfl)) (fun _ _ _ h => h) (Or.inl ⟨by rfl, ?_⟩) hHeld ?_ ?_
                                        rotate_left
                                        · rintro w' ⟨s0, s1, s2, s3, s4, s5, s6⟩
                                          go_simp
                                          with_reducible rfl
                                        rotate_left
                                        · simp only [Act.put, List.setIfInBounds_toArray, List.set_cons_zero, List.set_cons_succ, i64_w, i32_w]
                                          rfl
                                        refine pure_ (i := 17) (N := some 168) (v := ?_) (a' := ?_) #[true, true, true, false, true, true, true, true, true, true, true, true, true, true, true, true, true, true, false, true, true, false, true, true, false, true, true, false, false, false] rfl rfl (any_of HT_.out (by kernel_rfl)) (fun _ _ _ h => h) (Or.inl ⟨by rfl, ?_⟩) ?_ ?_
                                        rotate_left
                                        · intro w'
                                          go_simp
                                          with_reducible rfl
                                        rotate_left
                                        · simp only [Act.put, List.setIfInBounds_toArray, List.set_cons_zero, List.set_cons_succ, i64_w, i32_w]
                                          rfl
                                        refine take_ (i := 21) (N := some 172) (v := ?_) (a' := ?_) #[true, true, true, false, true, true, true, true, true, true, true, true, true, true, true, true, true, true, false, true, true, true, true, true, false, true, true, false, false, false] rfl rfl (take_ofW HT_.out HW_.out (by kernel_rfl)) (fun _ _ _ h => h) (Or.inl ⟨by rfl, ?_⟩) hHeld ?_ ?_
                                        rotate_left
                                        · rintro w' ⟨s0, s1, s2, s3, s4, s5, s6⟩
                                          go_simp
                                          with_reducible rfl
                                        rotate_left
                                        · simp only [Act.put, List.setIfInBounds_toArray, List.set_cons_zero, List.set_cons_succ, i64_w, i32_w]
                                          rfl
                                        refine take_ (i := 24) (N := some 175) (v := ?_) (a' := ?_) #[true, true, true, false, true, true, true, true, true, true, true, true, true, true, true, true, true, true, false, true, true, true, true, true, true, true, true, false, false, false] rfl rfl (take_ofW HT_.out HW_.out (by kernel_rfl)) (fun _ _ _ h => h) (Or.inl ⟨by rfl, ?_⟩) hHeld ?_ ?_
                                        rotate_left
                                        · rintro w' ⟨s0, s1, s2, s3, s4, s5, s6⟩
                                          go_simp
                                          with_reducible rfl
                                        rotate_left
                                        · simp only [Act.put, List.setIfInBounds_toArray, List.set_cons_zero, List.set_cons_succ, i64_w, i32_w]
                                          rfl
                                        refine take_ (i := 27) (N := some 178) (v := ?_) (a' := ?_) #[true, true, true, false, true, true, true, true, true, true, true, true, true, true, true, true, true, true, false, true, true, true, true, true, true, true, true, true, false, false] rfl rfl (take_ofW HT_.out HW_.out (by kernel_rfl)) (fun _ _ _ h => h) (Or.inl ⟨by rfl, ?_⟩) hHeld ?_ ?_
                                        rotate_left
                                        · rintro w' ⟨s0, s1, s2, s3, s4, s5, s6⟩
                                          go_simp
                                          with_reducible rfl
                                        rotate_left
                                        · simp only [Act.put, List.setIfInBounds_toArray, List.set_cons_zero, List.set_cons_succ, i64_w, i32_w]
                                          rfl
                                        refine one_ (i := 3) (N := some 154) #[true, true, true, true, true, true, true, true, true, true, true, true, true, true, true, true, true, true, false, true, true, true, true, true, true, true, true, true, false, false] rfl rfl (one_of HT_.out (by kernel_rfl)) (by decide) (fun K hK => ?_)
                                        refine goes_ Try.func37 (by kernel_rfl) rfl #[.int .i64 (wrap64 (t163 + t171))] (by rfl) rfl rfl (by (try simp only [List.map_toArray, List.map_cons, List.map_nil]); first | done | rfl | (simp only [List.length_drop, List.length_take]; rfl)) ?_
                                        with_reducible refine (armadaref12_mask.calls (wrap64 (t163 + t171)) t172 _ A53.out).mono ?_
                                        rintro e w' ⟨rfl, ⟨nd, rfl⟩⟩
                                        refine ⟨_, rfl, ?_⟩
                                        refine hK.out _ _ ⟨hHeld.1, hHeld.2.1, hHeld.2.2.1, hHeld.2.2.2.1, hHeld.2.2.2.2.1, hHeld.2.2.2.2.2.1, hHeld.2.2.2.2.2.2⟩ (fun hHeld => ?_)
                                        clear hK K
                                        refine norm_ (a' := ?_) ?_ ?_
                                        rotate_left
                                        · show Act.put _ (some 154) _ = _
                                          simp only [Act.put, List.setIfInBounds_toArray, List.set_cons_zero, List.set_cons_succ, i64_w, i32_w]
                                          rfl
                                        refine one_ (i := 18) (N := some 169) #[true, true, true, true, true, true, true, true, true, true, true, true, true, true, true, true, true, true, true, true, true, true, true, true, true, true, true, true, false, false] rfl rfl (one_of HT_.out (by kernel_rfl)) (by decide) (fun K hK => ?_)
                                        refine goes_ Try.func37 (by kernel_rfl) rfl #[.int .i64 (wrap64 ((rd x13_2 3) + t163))] (by rfl) rfl rfl (by (try simp only [List.map_toArray, List.map_cons, List.map_nil]); first | done | rfl | (simp only [List.length_drop, List.length_take]; rfl)) ?_
                                        with_reducible refine (armadaref12_mask.calls (wrap64 ((rd x13_2 3) + t163)) t177 _ A55.out).mono ?_
                                        rintro e w' ⟨rfl, ⟨nd, rfl⟩⟩
                                        refine ⟨_, rfl, ?_⟩
                                        refine hK.out _ _ ⟨hHeld.1, hHeld.2.1, hHeld.2.2.1, hHeld.2.2.2.1, hHeld.2.2.2.2.1, hHeld.2.2.2.2.2.1, hHeld.2.2.2.2.2.2⟩ (fun hHeld => ?_)
                                        clear hK K
                                        refine norm_ (a' := ?_) ?_ ?_
                                        rotate_left
                                        · show Act.put _ (some 169) _ = _
                                          simp only [Act.put, List.setIfInBounds_toArray, List.set_cons_zero, List.set_cons_succ, i64_w, i32_w]
                                          rfl
                                        refine one_ (i := 28) (N := some 179) #[true, true, true, true, true, true, true, true, true, true, true, true, true, true, true, true, true, true, true, true, true, true, true, true, true, true, true, true, true, false] rfl rfl (one_of HT_.out (by kernel_rfl)) (by decide) (fun K hK => ?_)
                                        refine Kd.R_lit_step (Kd.int .i64) _ 3 ?hg (N := 179) ?hd (xs := ([t172, rd x13_2 0, rd x13_2 1, rd x13_2 2, t177, rd x13_2 4, rd x13_2 5, rd x13_2 6] : List Int)) (inner := [.int .i64 t172, .int .i64 (rd x13_2 0), .int .i64 (rd x13_2 1), .int .i64 (rd x13_2 2), .int .i64 t177, .int .i64 (rd x13_2 4), .int .i64 (rd x13_2 5), .int .i64 (rd x13_2 6)]) (ok := fun _ => True) (okp := fun _ => True) ?hr ?hp (fun _ hk => hk) trivial (Below.refl _ _) (Nat.le_refl _) (by simp) ?_; (case hd => rfl); (case hg => rfl); (case hr => first | (go_simp; done) | (go_simp; rfl)); (case hp => exact (Reps.one (show Kd.M (Kd.int .i64) _ _ _ t172 [.int .i64 t172] from rfl) (Reps.one (show Kd.M (Kd.int .i64) _ _ _ (rd x13_2 0) [.int .i64 (rd x13_2 0)] from rfl) (Reps.one (show Kd.M (Kd.int .i64) _ _ _ (rd x13_2 1) [.int .i64 (rd x13_2 1)] from rfl) (Reps.one (show Kd.M (Kd.int .i64) _ _ _ (rd x13_2 2) [.int .i64 (rd x13_2 2)] from rfl) (Reps.one (show Kd.M (Kd.int .i64) _ _ _ t177 [.int .i64 t177] from rfl) (Reps.one (show Kd.M (Kd.int .i64) _ _ _ (rd x13_2 4) [.int .i64 (rd x13_2 4)] from rfl) (Reps.one (show Kd.M (Kd.int .i64) _ _ _ (rd x13_2 5) [.int .i64 (rd x13_2 5)] from rfl) (Reps.one (show Kd.M (Kd.int .i64) _ _ _ (rd x13_2 6) [.int .i64 (rd x13_2 6)] from rfl) (Reps.none _ _))))))))))
                                        intro v182 w61 ho62 hb hg_ hnew_
                                        have HS0_ := (hb.cell (World.block_lt_of_cell? _ _ (hHeld.1))).trans (hHeld.1)
                                        have HS1_ := (hb.cell (World.block_lt_of_cell? _ _ (hHeld.2.1))).trans (hHeld.2.1)
                                        have HS2_ := (hb.cell (World.block_lt_of_cell? _ _ (hHeld.2.2.1))).trans (hHeld.2.2.1)
                                        have HS3_ := (hb.cell (World.block_lt_of_cell? _ _ (hHeld.2.2.2.1))).trans (hHeld.2.2.2.1)
                                        have HS4_ := (hb.cell (World.block_lt_of_cell? _ _ (hHeld.2.2.2.2.1))).trans (hHeld.2.2.2.2.1)
                                        have HS5_ := (hb.cell (World.block_lt_of_cell? _ _ (hHeld.2.2.2.2.2.1))).trans (hHeld.2.2.2.2.2.1)
                                        have HS6_ := (hb.cell (World.block_lt_of_cell? _ _ (hHeld.2.2.2.2.2.2))).trans (hHeld.2.2.2.2.2.2)
                                        clear hg_ hnew_
                                        (first | rw [← Ny181.out] at ho62 | (simp only [Int.reduceToNat] at ho62; rw [← Ny181.out] at ho62))
                                        have n0_ := Aside0.mk (Kd.R_elder' (by (with_reducible repeat (first | apply Kd.R_alloc | apply Kd.R_drewN | apply Kd.R_drew)); exact HO_7.out) (Kd.R_base ho62) hb)
                                        have n1_ := Aside0.mk (Kd.R_elder' (by (with_reducible repeat (first | apply Kd.R_alloc | apply Kd.R_drewN | apply Kd.R_drew)); exact HO_13.out) (Kd.R_base ho62) hb)
                                        have n2_ := Aside0.mk (Kd.R_lower (Kd.R_new' (Kd.R_new' ho62 (Kd.R_lt (by (with_reducible repeat (first | apply Kd.R_alloc | apply Kd.R_drewN | apply Kd.R_drew)); exact HO_7.out))) (Kd.R_lt (by (with_reducible repeat (first | apply Kd.R_alloc | apply Kd.R_drewN | apply Kd.R_drew)); exact HO_13.out))) (below_size (by repeat (first | (with_reducible first | exact HB.out | apply below_alloc | apply pw_below_drewN | apply below_drew1) | exact HB.out))))
                                        have n3_ := Aside0.mk (below_step (by repeat (first | (with_reducible first | exact HB.out | apply below_alloc | apply pw_below_drewN | apply below_drew1) | exact HB.out)) hb)
                                        clear HO_7
                                        clear HO_13
                                        clear HB
                                        have HO_7 := n0_
                                        have HO_13 := n1_
                                        have HO183 := n2_
                                        have HB := n3_
                                        clear n0_ n1_ n2_ n3_
                                        clear hb ho62
                                        refine hK.out _ _ ⟨HS0_, HS1_, HS2_, HS3_, HS4_, HS5_, HS6_⟩ (fun hHeld => ?_)
                                        clear hK K
                                        refine norm_ (a' := ?_) ?_ ?_
                                        rotate_left
                                        · show Act.put _ (some 179) _ = _
                                          simp only [Act.put, List.setIfInBounds_toArray, List.set_cons_zero, List.set_cons_succ, i64_w, i32_w]
                                          rfl
                                        refine pure_ (i := 29) (N := some 13) (v := ?_) (a' := ?_) #[true, true, true, true, true, true, true, true, true, true, true, true, true, true, true, true, true, true, true, true, true, true, true, true, true, true, true, true, true, true] rfl rfl (any_of HT_.out (by kernel_rfl)) (fun _ _ _ h => h) (Or.inl ⟨by rfl, ?_⟩) ?_ ?_
                                        rotate_left
                                        · intro w'
                                          go_simp
                                          with_reducible rfl
                                        rotate_left
                                        · simp only [Act.put, List.setIfInBounds_toArray, List.set_cons_zero, List.set_cons_succ, i64_w, i32_w]
                                          rfl
                                        refine done_ (done_of HT_.out (by kernel_rfl)) ?_
                                        try go_wp2
                                        go_roundg k2
                                        case measure => have := HK1.out; have := HK2.out; omega
                                        case rel => exact ⟨(y181), (wrap64 (x14_2 + 1)), (by first | rfl | (simp; done) | (simp [*]; done)), H', ⟨by have := HK1.out; have := HK2.out; omega⟩, ⟨by (with_reducible repeat (first | apply Kd.R_alloc | apply Kd.R_drewN | apply Kd.R_drew)); exact Kd.R_mono HO_7.out (fun _ hk => hk.2)⟩, ⟨by (with_reducible repeat (first | apply Kd.R_alloc | apply Kd.R_drewN | apply Kd.R_drew)); exact Kd.R_mono HO183.out (fun _ hk => hk.1.2)⟩, ⟨by repeat (first | (with_reducible first | exact HB.out | apply below_alloc | apply pw_below_drewN | apply below_drew1) | exact HB.out)⟩⟩
                                      · rw [if_neg c54] at H
                                        exact absurd H (by simp)
                                    · rw [if_neg c51] at H
                                      exact absurd H (by simp)
                                  · rw [if_neg c50] at H
                                    exact absurd H (by simp)
                                · rw [if_neg c45] at H
                                  exact absurd H (by simp)
                              · rw [if_neg c44] at H
                                exact absurd H (by simp)
                            · rw [if_neg c43] at H
                              exact absurd H (by simp)
                          · rw [if_neg c42] at H
                            exact absurd H (by simp)
                        · rw [if_neg c41] at H
                          exact absurd H (by simp)
                      · rw [if_neg c37] at H
                        exact absurd H (by simp)
                    · rw [if_neg c36] at H
                      exact absurd H (by simp)
                  · rw [if_neg c35] at H
                    exact absurd H (by simp)
                · rw [if_neg c34] at H
                  have c34b0 : decide (x14_2 < 64) = false := decide_eq_false c34
                  clear c34
                  have H' := Aside0.mk H
                  clear H
                  go_wp2
                  go_loopg [19, 20] k2 (fun kq v19 v20 w' => ∃ (x19_3 : List Int) (x20_3 : Int), v20 = .int .i64 x20_3 ∧ Aside0 (armadaref12_rolled.l2 kq l0 x13_2 x19_3 x20_3 = some r) ∧ Aside0 (kq ≤ k2) ∧ Aside0 (Kd.R (Kd.int .i64) 3 w' w.heap.size (fun k_ => some k_ ≠ (v19 : Value).ownBlock) u13 x13_2) ∧ Aside0 (Kd.R (Kd.int .i64) 3 w' w.heap.size (fun k_ => some k_ ≠ (u13 : Value).ownBlock) v19 x19_3) ∧ Aside0 (Below w.heap.size w w'))
                  case atStart => exact ⟨(([] : List Int)), (0), (by first | rfl | (simp; done) | (simp [*]; done)), H', ⟨Nat.le_refl _⟩, ⟨by (with_reducible repeat (first | apply Kd.R_alloc | apply Kd.R_drewN | apply Kd.R_drew)); exact Kd.R_mono HO_13.out (fun _ hk => (by simp [Value.ownBlock]))⟩, ⟨by first | exact Kd.R_nil _ _ _ _ _ | exact Kd.N_nil _ _ _ _ _ | exact Kd.V_nil _ _ _ _ _ | exact Kd.Q_nil _ _ _ _ _ | exact Kd.S_nil _ _ _ _ _⟩, ⟨by repeat (first | (with_reducible first | exact HB.out | apply below_alloc | apply pw_below_drewN | apply below_drew1) | exact HB.out)⟩⟩
                  case round =>
                    clear H'
                    try clear p1
                    try clear q1
                    try clear hx1
                    try clear qi1
                    try clear p2
                    try clear c3
                    try clear c4
                    try clear c5
                    try clear p6
                    try clear p17
                    try clear q17
                    try clear hx17
                    try clear qi17
                    try clear p18
                    try clear q18
                    try clear hx18
                    try clear qi18
                    try clear c34
                    try clear c34b0
                    try clear c35
                    try clear c36
                    try clear c37
                    try clear c41
                    try clear c42
                    try clear c43
                    try clear c44
                    try clear c45
                    try clear c50
                    try clear c51
                    try clear c54
                    try clear hx173_0
                    try clear hx174_0
                    try clear hx175_0
                    try clear hx176_0
                    try clear hx178_0
                    try clear hx179_0
                    try clear hx180_0
                    try clear p173
                    try clear p174
                    try clear p175
                    try clear p176
                    try clear p178
                    try clear p179
                    try clear p180
                    try clear q173
                    try clear q174
                    try clear q175
                    try clear q176
                    try clear q178
                    try clear q179
                    try clear q180
                    obtain ⟨x19_3, x20_3, rfl, HA, HK3, HO_13, HO_19, HB⟩ := hrel
                    cases gk with
                    | zero => exact absurd HA.out (by simp [armadaref12_rolled.l2])
                    | succ k3 =>
                      have H := HA.out
                      clear HA
                      simp only [armadaref12_rolled.l2] at H
                      by_cases c63 : x20_3 < 8
                      · rw [if_pos c63] at H
                        have c63b0 : decide (x20_3 < 8) = true := decide_eq_true c63
                        clear c63
                        by_cases c64 : 0 ≤ x20_3
                        · rw [if_pos c64] at H
                          have c64b0 : decide (0 ≤ x20_3) = true := decide_eq_true c64
                          clear c64
                          by_cases c65 : x20_3 < (l0.length : Int)
                          · rw [if_pos c65] at H
                            have c65b0 : decide (x20_3 < (l0.length : Int)) = true := decide_eq_true c65
                            clear c65
                            by_cases c66 : x20_3 < (x13_2.length : Int)
                            · rw [if_pos c66] at H
                              have c66b0 : decide (x20_3 < (x13_2.length : Int)) = true := decide_eq_true c66
                              clear c66
                              replace H := Option.bind_eq_some_iff.mp H
                              obtain ⟨t186, A670, H⟩ := H
                              replace H : (if x19_3.length < 17592186044416 then (armadaref12_rolled.l2 k3 l0 x13_2 (x19_3 ++ [t186]) (wrap64 (x20_3 + 1))) else (none)) = some r := H
                              have A67 := Aside0.mk A670
                              clear A670
                              by_cases c68 : x19_3.length < 17592186044416
                              · rw [if_pos c68] at H
                                have LMc68 := Aside0.mk c68
                                clear c68
                                obtain ⟨y187, hy187⟩ : ∃ y_ : List Int, y_ = (x19_3 ++ [t186]) := ⟨_, rfl⟩
                                replace H : (armadaref12_rolled.l2 k3 l0 x13_2 y187 (wrap64 (x20_3 + 1))) = some r := by first | (rw [hy187]; with_reducible exact H) | (have H2_ := (Option.bind_some _ _).symm.trans H; rw [hy187]; with_reducible exact H2_) | (have H2_ := (Option.bind_some _ _).symm.trans H; with_reducible exact H2_) | with_reducible exact H | (rw [hy187]; exact H) | exact H
                                have Ny187 := Aside0.mk hy187
                                clear hy187
                                have H' := Aside0.mk H
                                clear H
                                try go_wp2
                                have n0_ := Aside0.mk (Kd.R_drew HO_13.out)
                                have n1_ := Aside0.mk (Kd.R_drew HO_19.out)
                                have n2_ := Aside0.mk (below_drew1 HB.out)
                                clear HO_13
                                clear HO_19
                                clear HB
                                have HO_13 := n0_
                                have HO_19 := n1_
                                have HB := n2_
                                clear n0_ n1_ n2_
                                have p184 : 0 ≤ (x20_3 : Int) := of_decide_eq_true (by first | (with_reducible assumption) | assumption)
                                have q184 : x20_3 < (l0.length : Int) := of_decide_eq_true (by first | (with_reducible assumption) | assumption)
                                obtain ⟨ad184, e184, hx184_0⟩ := Kd.at_int HR0.out x20_3 p184 q184
                                have hw184_0 := hx184_0
                                cases e184
                                replace hx184_0 := (HB.out.cell (World.block_lt_of_cell? w _ hx184_0)).trans hx184_0
                                replace p184 := eq_true p184
                                replace q184 := eq_true q184
                                obtain ⟨Ao70, co70, eo70⟩ := Kd.R_slice HO_13.out
                                (first | subst eo70 | (injection eo70 with f1_ f2_ f3_; have f4_ := f1_.symm; have f5_ := f3_.symm; clear f1_ f2_ f3_; subst f4_; subst f5_))
                                have p185 : 0 ≤ (x20_3 : Int) := of_decide_eq_true (by first | (with_reducible assumption) | assumption)
                                have q185 : x20_3 < (x13_2.length : Int) := of_decide_eq_true (by first | (with_reducible assumption) | assumption)
                                obtain ⟨ad185, e185, hx185_0⟩ := Kd.at_int (Kd.R_reads' HO_13.out).2.2 x20_3 p185 q185
                                cases e185
                                replace p185 := eq_true p185
                                replace q185 := eq_true q185
                                refine start_ (n := 14) (S := fun w' => w'.cell? (ad184.add (x20_3).toNat) = some (.int .i64 (rd l0 x20_3)) ∧ w'.cell? (ad185.add (x20_3).toNat) = some (.int .i64 (rd x13_2 x20_3))) (ds := [11, 12]) #[false, false, false, false, false, false, false, false, false, false, false, false, false, false] (by kernel_rfl) rfl rfl ⟨((HB.out.cell (World.block_lt_of_cell? w _ hw184_0)).trans hw184_0), hx185_0⟩ (fun hHeld => ?_); refine with_tabW armadaref12_rolled.tab23 armadaref12_rolled.bits23 (fun HT_ HW_ => ?_)
                                generalize wr.drew = w69 at HO_13 HO_19 HB hx184_0 hx185_0 hHeld ⊢
                                refine pure_ (i := 0) (N := some 184) (v := ?_) (a' := ?_) #[true, false, false, false, false, false, false, false, false, false, false, false, false, false] rfl rfl (any_of HT_.out (by kernel_rfl)) (fun _ _ _ h => h) (Or.inl ⟨by rfl, ?_⟩) ?_ ?_
                                rotate_left
                                · intro w'
                                  go_simp
                                  with_reducible rfl
                                rotate_left
                                · simp only [Act.put, List.setIfInBounds_toArray, List.set_cons_zero, List.set_cons_succ, i64_w, i32_w]
                                  rfl
                                refine pure_ (i := 1) (N := some 185) (v := ?_) (a' := ?_) #[true, true, false, false, false, false, false, false, false, false, false, false, false, false] rfl rfl (any_of HT_.out (by kernel_rfl)) (fun _ _ _ h => h) (Or.inl ⟨by rfl, ?_⟩) ?_ ?_
                                rotate_left
                                · intro w'
                                  go_simp
                                  with_reducible rfl
                                rotate_left
                                · simp only [Act.put, List.setIfInBounds_toArray, List.set_cons_zero, List.set_cons_succ, i64_w, i32_w]
                                  rfl
                                refine pure_ (i := 2) (N := some 186) (v := ?_) (a' := ?_) #[true, true, true, false, false, false, false, false, false, false, false, false, false, false] rfl rfl (any_of HT_.out (by kernel_rfl)) (fun _ _ _ h => h) (Or.inl ⟨by rfl, ?_⟩) ?_ ?_
                                rotate_left
                                · intro w'
                                  go_simp
                                  with_reducible rfl
                                rotate_left
                                · simp only [Act.put, List.setIfInBounds_toArray, List.set_cons_zero, List.set_cons_succ, i64_w, i32_w]
                                  rfl
                                refine pure_ (i := 3) (N := some 187) (v := ?_) (a' := ?_) #[true, true, true, true, false, false, false, false, false, false, false, false, false, false] rfl rfl (any_of HT_.out (by kernel_rfl)) (fun _ _ _ h => h) (Or.inl ⟨by rfl, ?_⟩) ?_ ?_
                                rotate_left
                                · intro w'
                                  go_simp
                                  with_reducible rfl
                                rotate_left
                                · simp only [Act.put, List.setIfInBounds_toArray, List.set_cons_zero, List.set_cons_succ, i64_w, i32_w]
                                  rfl
                                refine pure_ (i := 5) (N := some 189) (v := ?_) (a' := ?_) #[true, true, true, true, false, true, false, false, false, false, false, false, false, false] rfl rfl (any_of HT_.out (by kernel_rfl)) (fun _ _ _ h => h) (Or.inl ⟨by rfl, ?_⟩) ?_ ?_
                                rotate_left
                                · intro w'
                                  go_simp
                                  with_reducible rfl
                                rotate_left
                                · simp only [Act.put, List.setIfInBounds_toArray, List.set_cons_zero, List.set_cons_succ, i64_w, i32_w]
                                  rfl
                                refine pure_ (i := 6) (N := some 190) (v := ?_) (a' := ?_) #[true, true, true, true, false, true, true, false, false, false, false, false, false, false] rfl rfl (any_of HT_.out (by kernel_rfl)) (fun _ _ _ h => h) (Or.inl ⟨by rfl, ?_⟩) ?_ ?_
                                rotate_left
                                · intro w'
                                  go_simp
                                  with_reducible rfl
                                rotate_left
                                · simp only [Act.put, List.setIfInBounds_toArray, List.set_cons_zero, List.set_cons_succ, i64_w, i32_w]
                                  rfl
                                refine pure_ (i := 7) (N := some 191) (v := ?_) (a' := ?_) #[true, true, true, true, false, true, true, true, false, false, false, false, false, false] rfl rfl (any_of HT_.out (by kernel_rfl)) (fun _ _ _ h => h) (Or.inl ⟨by rfl, ?_⟩) ?_ ?_
                                rotate_left
                                · intro w'
                                  go_simp
                                  with_reducible rfl
                                rotate_left
                                · simp only [Act.put, List.setIfInBounds_toArray, List.set_cons_zero, List.set_cons_succ, i64_w, i32_w]
                                  rfl
                                refine take_ (i := 4) (N := some 188) (v := ?_) (a' := ?_) #[true, true, true, true, true, true, true, true, false, false, false, false, false, false] rfl rfl (take_ofW HT_.out HW_.out (by kernel_rfl)) (fun _ _ _ h => h) (Or.inl ⟨by rfl, ?_⟩) hHeld ?_ ?_
                                rotate_left
                                · rintro w' ⟨s0, s1⟩
                                  go_simp
                                  with_reducible rfl
                                rotate_left
                                · simp only [Act.put, List.setIfInBounds_toArray, List.set_cons_zero, List.set_cons_succ, i64_w, i32_w]
                                  rfl
                                refine take_ (i := 8) (N := some 192) (v := ?_) (a' := ?_) #[true, true, true, true, true, true, true, true, true, false, false, false, false, false] rfl rfl (take_ofW HT_.out HW_.out (by kernel_rfl)) (fun _ _ _ h => h) (Or.inl ⟨by rfl, ?_⟩) hHeld ?_ ?_
                                rotate_left
                                · rintro w' ⟨s0, s1⟩
                                  go_simp
                                  with_reducible rfl
                                rotate_left
                                · simp only [Act.put, List.setIfInBounds_toArray, List.set_cons_zero, List.set_cons_succ, i64_w, i32_w]
                                  rfl
                                refine pure_ (i := 9) (N := some 193) (v := ?_) (a' := ?_) #[true, true, true, true, true, true, true, true, true, true, false, false, false, false] rfl rfl (any_of HT_.out (by kernel_rfl)) (fun _ _ _ h => h) (Or.inl ⟨by rfl, ?_⟩) ?_ ?_
                                rotate_left
                                · intro w'
                                  go_simp
                                  with_reducible rfl
                                rotate_left
                                · simp only [Act.put, List.setIfInBounds_toArray, List.set_cons_zero, List.set_cons_succ, i64_w, i32_w]
                                  rfl
                                refine one_ (i := 10) (N := some 194) #[true, true, true, true, true, true, true, true, true, true, true, false, false, false] rfl rfl (one_of HT_.out (by kernel_rfl)) (by decide) (fun K hK => ?_)
                                refine goes_ Try.func37 (by kernel_rfl) rfl #[.int .i64 (wrap64 ((rd l0 x20_3) + (rd x13_2 x20_3)))] (by rfl) rfl rfl (by (try simp only [List.map_toArray, List.map_cons, List.map_nil]); first | done | rfl | (simp only [List.length_drop, List.length_take]; rfl)) ?_
                                with_reducible refine (armadaref12_mask.calls (wrap64 ((rd l0 x20_3) + (rd x13_2 x20_3))) t186 _ A67.out).mono ?_
                                rintro e w' ⟨rfl, ⟨nd, rfl⟩⟩
                                refine ⟨_, rfl, ?_⟩
                                refine hK.out _ _ ⟨((HB.out.cell (World.block_lt_of_cell? w _ hw184_0)).trans hw184_0), hHeld.2⟩ (fun hHeld => ?_)
                                clear hK K
                                refine norm_ (a' := ?_) ?_ ?_
                                rotate_left
                                · show Act.put _ (some 194) _ = _
                                  simp only [Act.put, List.setIfInBounds_toArray, List.set_cons_zero, List.set_cons_succ, i64_w, i32_w]
                                  rfl
                                refine last_ (i := 11) (N := some 195) #[true, true, true, true, true, true, true, true, true, true, true, true, false, false] rfl rfl (one_of HT_.out (by kernel_rfl)) (by decide) (fun K hK => ?_)
                                refine value_ (w1 := ?_) (v := ?_) (by rfl) rfl ?_ ?_
                                rotate_left 2
                                · go_simp
                                  constructor
                                  · rfl
                                  · rfl
                                refine hK.out _ _ ?_
                                clear hK K
                                refine norm_ (a' := ?_) ?_ ?_
                                rotate_left
                                · show Act.put _ (some 195) _ = _
                                  simp only [Act.put, List.setIfInBounds_toArray, List.set_cons_zero, List.set_cons_succ, i64_w, i32_w]
                                  rfl
                                refine last_ (i := 12) (N := some 196) #[true, true, true, true, true, true, true, true, true, true, true, true, true, false] rfl rfl (one_of HT_.out (by kernel_rfl)) (by decide) (fun K hK => ?_)
                                refine Kd.R_append_step (Kd.int .i64) (w0 := w) w.heap.size (by rfl) (.tmp 184) (.tmp 195) 29 3 (.int .i64 0) 8 rfl Try.underlying29 info3 rfl (by decide) (by omega) u19 x19_3 t186 [.int .i64 t186] (fun k_ => some k_ ≠ (.slice (some ad185) x13_2.length co70 : Value).ownBlock) (fun _ => False) rfl rfl ?aP (fun _ hk => hk.elim) ?aF ?aO ?aB ?aS ?aL ?_
                                (case aP => exact rfl)
                                (case aB => exact (by repeat (first | (with_reducible first | exact HB.out | apply below_alloc | apply pw_below_drewN | apply below_drew1) | exact HB.out)))
                                (case aF => exact (fun k_ hk => Kd.fresh' (Kd.R_lt (by (with_reducible repeat (first | apply Kd.R_alloc | apply Kd.R_drewN | apply Kd.R_drew)); exact HO_13.out)) k_ hk))
                                (case aO => exact (by (with_reducible repeat (first | apply Kd.R_alloc | apply Kd.R_drewN | apply Kd.R_drew)); exact HO_19.out))
                                (case aS => exact (below_size (by repeat (first | (with_reducible first | exact HB.out | apply below_alloc | apply pw_below_drewN | apply below_drew1) | exact HB.out))))
                                (case aL => have := LMc68.out; omega)
                                intro v188 w71 ho hb hg hat
                                rw [← Ny187.out] at ho
                                have n0_ := Aside0.mk (Kd.R_after (ok := (fun _ => True)) (by (with_reducible repeat (first | apply Kd.R_alloc | apply Kd.R_drewN | apply Kd.R_drew)); exact Kd.R_mono HO_13.out (fun _ hk => ⟨trivial, hk⟩)) hg hat)
                                have n1_ := Aside0.mk (hb)
                                have n2_ := Aside0.mk (ho)
                                clear HO_13
                                clear HB
                                clear HO_19
                                have HO_13 := n0_
                                have HB := n1_
                                have HO189 := n2_
                                clear n0_ n1_ n2_
                                clear ho hb hg hat
                                refine hK.out _ _ ?_
                                clear hK K
                                refine norm_ (a' := ?_) ?_ ?_
                                rotate_left
                                · show Act.put _ (some 196) _ = _
                                  simp only [Act.put, List.setIfInBounds_toArray, List.set_cons_zero, List.set_cons_succ, i64_w, i32_w]
                                  rfl
                                refine pure_ (i := 13) (N := some 19) (v := ?_) (a' := ?_) #[true, true, true, true, true, true, true, true, true, true, true, true, true, true] rfl rfl (any_of HT_.out (by kernel_rfl)) (fun _ _ _ h => h) (Or.inl ⟨by rfl, ?_⟩) ?_ ?_
                                rotate_left
                                · intro w'
                                  go_simp
                                  with_reducible rfl
                                rotate_left
                                · simp only [Act.put, List.setIfInBounds_toArray, List.set_cons_zero, List.set_cons_succ, i64_w, i32_w]
                                  rfl
                                refine done_ (done_of HT_.out (by kernel_rfl)) ?_
                                try go_wp2
                                go_roundg k3
                                case measure => have := HK1.out; have := HK2.out; have := HK3.out; omega
                                case rel => exact ⟨(y187), (wrap64 (x20_3 + 1)), (by first | rfl | (simp; done) | (simp [*]; done)), H', ⟨by have := HK1.out; have := HK2.out; have := HK3.out; omega⟩, ⟨by (with_reducible repeat (first | apply Kd.R_alloc | apply Kd.R_drewN | apply Kd.R_drew)); exact Kd.R_mono HO_13.out (fun _ hk => hk.2)⟩, ⟨by (with_reducible repeat (first | apply Kd.R_alloc | apply Kd.R_drewN | apply Kd.R_drew)); exact HO189.out⟩, ⟨by repeat (first | (with_reducible first | exact HB.out | apply below_alloc | apply pw_below_drewN | apply below_drew1) | exact HB.out)⟩⟩
                              · rw [if_neg c68] at H
                                exact absurd H (by simp)
                            · rw [if_neg c66] at H
                              exact absurd H (by simp)
                          · rw [if_neg c65] at H
                            exact absurd H (by simp)
                        · rw [if_neg c64] at H
                          exact absurd H (by simp)
                      · rw [if_neg c63] at H
                        have c63b0 : decide (x20_3 < 8) = false := decide_eq_false c63
                        clear c63
                        obtain rfl := Option.some.inj H
                        go_wp2
                        go_ret
                        exact ⟨_, by first | rfl | (simp [errW_none, errW_some] <;> rfl) | (simp [*, errW_none, errW_some] <;> rfl), by (with_reducible repeat (first | apply Kd.R_alloc | apply Kd.R_drewN | apply Kd.R_drew)); exact Kd.R_mono HO_19.out (fun _ hk => trivial), by repeat (first | (with_reducible first | exact HB.out | apply below_alloc | apply pw_below_drewN | apply below_drew1) | exact HB.out)⟩
          · rw [if_neg c30] at H
            exact absurd H (by simp)
  · rw [if_neg c4] at H
    exact absurd H (by simp)

end Go.Proofs.Ytkejacgedipoeaa.P
