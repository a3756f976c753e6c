/- Printed functions, merged. -/
import Derived.Test.YthoiepkejhhcoaaDoorZVTM0
import Derived.Test.YthoiepkejhhcoaaDoorZVTVGiven
import Derived.Test.YthoiepkejhhcoaaDoorZVTGStr
import Derived.Test.YthoiepkejhhcoaaDoorZVTM1
import Derived.Test.YthoiepkejhhcoaaDoorZVTAl
namespace Go.Proofs.YthoiepkejhhcoaaDoor.P
open Go.RowKit Go.Proofs.YthoiepkejhhcoaaDoorW.PrintWords Go.Proofs.YthoiepkejhhcoaaDoorW.PrintLast Go.Proofs.YthoiepkejhhcoaaDoorW.PrintMore
attribute [local go_sem] max2_int min2_int max_two min_two max_three min_three max_four min_four   -- for this text's walks alone
set_option linter.unusedVariables false
set_option linter.unusedSimpArgs false
def ver_byWord.j0 : Nat → ByteArray → ByteArray → Bool → Bool → Bool → Option (Int)
 | 0, _, _, _, _, _ => none
 | k + 1, x0, x1, x5, x6, x11 => if x11 = true then ((cmp_Compare_int.f (x0.size : Int) (x1.size : Int)).bind fun t149 => ((strings_Compare.f x0 x1).bind fun t150 => ((cmp_Or_int.f k (([t149, t150] : List Int))).bind fun t154 => (some t154)))) else (if x5 = true then (some (-1)) else (if x6 = true then (some 1) else ((strings_Compare.f x0 x1).bind fun t155 => (some t155))))
def ver_byWord.f (k : Nat) (a0 : ByteArray) (a1 : ByteArray) : Option (Int) := (ver_digits.f k a0).bind fun t147 => ((ver_digits.f k a1).bind fun t148 => (if t147 = true then (ver_byWord.j0 k a0 a1 t147 t148 t148) else (ver_byWord.j0 k a0 a1 t147 t148 false)))
theorem ver_byWord.mono_l : ∀ k, (∀ y0 y1 y2 y3 y4, LeO (ver_byWord.j0 k y0 y1 y2 y3 y4) (ver_byWord.j0 (k + 1) y0 y1 y2 y3 y4))
 | 0 => fun _ _ _ _ _ r h => by simp [ver_byWord.j0] at h
 | k + 1 => by
  have ih0 := ver_byWord.mono_l k
  ·intro y0 y1 y2 y3 y4
   unfold ver_byWord.j0
   repeat' first
   | (with_reducible exact ih0 _ _ _ _ _)
   | (with_reducible exact cmp_Or_int.mono _ _)
   | (with_reducible exact ver_digits.mono _ _)
   | (with_reducible exact LeO.refl _)
   | (with_reducible exact LeO.none _)
   | (with_reducible refine LeO.ite ?_ ?_)
   | (with_reducible refine LeO.bind ?_ (fun _ => ?_))
   | exact ih0 _ _ _ _ _
   | exact cmp_Or_int.mono _ _
   | exact ver_digits.mono _ _
   | exact LeO.none _
   | refine LeO.ite ?_ ?_
   | refine LeO.bind ?_ (fun _ => ?_)
theorem ver_byWord.mono : ∀ a0 a1 k, LeO (ver_byWord.f k a0 a1) (ver_byWord.f (k + 1) a0 a1) := by
 intro a0 a1 k
 have ih0 := ver_byWord.mono_l k
 unfold ver_byWord.f
 repeat' first
   | (with_reducible exact ih0 _ _ _ _ _)
   | (with_reducible exact cmp_Or_int.mono _ _)
   | (with_reducible exact ver_digits.mono _ _)
   | (with_reducible exact LeO.refl _)
   | (with_reducible exact LeO.none _)
   | (with_reducible refine LeO.ite ?_ ?_)
   | (with_reducible refine LeO.bind ?_ (fun _ => ?_))
   | exact ih0 _ _ _ _ _
   | exact cmp_Or_int.mono _ _
   | exact ver_digits.mono _ _
   | exact LeO.none _
   | refine LeO.ite ?_ ?_
   | refine LeO.bind ?_ (fun _ => ?_)
set_option maxHeartbeats 8000000 in
set_option maxRecDepth 100000 in
theorem ver_byWord.calls (k : Nat) (a0 : ByteArray) (a1 : ByteArray) (r : Int) (w : World) (h : ver_byWord.f k a0 a1 = some r) :
  Calls Tryd.prog 55 #[.string a0, .string a1] w fun e w' => e = .returned (.int .i64 r) ∧ Below w.heap.size w w' := by
 have HB := Aside0.mk (Below.refl w.heap.size w)
 have H : ((ver_digits.f k a0).bind fun t147 => ((ver_digits.f k a1).bind fun t148 => (if t147 = true then (ver_byWord.j0 k a0 a1 t147 t148 t148) else (ver_byWord.j0 k a0 a1 t147 t148 false)))) = some r := h
 clear h
 replace H := Option.bind_eq_some_iff.mp H
 obtain ⟨t147, A30, H⟩ := H
 replace H : ((ver_digits.f k a1).bind fun t148 => (if t147 = true then (ver_byWord.j0 k a0 a1 t147 t148 t148) else (ver_byWord.j0 k a0 a1 t147 t148 false))) = some r := H
 have A3 := Aside0.mk A30
 clear A30
 replace H := Option.bind_eq_some_iff.mp H
 obtain ⟨t148, A40, H⟩ := H
 replace H : (if t147 = true then (ver_byWord.j0 k a0 a1 t147 t148 t148) else (ver_byWord.j0 k a0 a1 t147 t148 false)) = some r := H
 have A4 := Aside0.mk A40
 clear A40
 have HC5 := Aside0.mk H
 clear H
 go_enter Tryd.func55, Tryd.ntmps55
 go_upto_region 2 with (first | ((with_reducible refine gate_callee (f := 51) rfl ?_); refine goesL_ (some 8) rfl rfl Tryd.func51 (by kernel_rfl) rfl #[.string a0] rfl (by (try simp only [List.map_toArray, List.map_cons, List.map_nil]); first | done | rfl) ?_; (with_reducible refine (ver_digits.calls k a0 t147 _ A3.out).mono ?_); rintro e w' ⟨rfl, ⟨nd, rfl⟩⟩; refine ⟨_, rfl, ?_⟩) | (go_at_call 51; (with_reducible refine (ver_digits.calls k a0 t147 _ A3.out).mono ?_); rintro e w' ⟨rfl, ⟨nd, rfl⟩⟩) | ((with_reducible refine gate_callee (f := 51) rfl ?_); refine goesL_ (some 10) rfl rfl Tryd.func51 (by kernel_rfl) rfl #[.string a1] rfl (by (try simp only [List.map_toArray, List.map_cons, List.map_nil]); first | done | rfl) ?_; (with_reducible refine (ver_digits.calls k a1 t148 _ A4.out).mono ?_); rintro e w' ⟨rfl, ⟨nd, rfl⟩⟩; refine ⟨_, rfl, ?_⟩) | (go_at_call 51; (with_reducible refine (ver_digits.calls k a1 t148 _ A4.out).mono ?_); rintro e w' ⟨rfl, ⟨nd, rfl⟩⟩))
 (try simp only [Act.put, List.setIfInBounds_toArray, List.set_cons_zero, List.set_cons_succ])
 go_cut [11] (fun v11 wc => ∃ (kq : Nat) (x11_4 : Bool), v11 = .bool x11_4 ∧ Aside0 (ver_byWord.j0 kq a0 a1 t147 t148 x11_4 = some r) ∧ Aside0 (kq ≤ k) ∧ Aside0 (Below w.heap.size w wc))
 case first =>
  have H := HC5.out
  clear HC5
  by_cases c6 : t147 = true
  ·subst c6
   have H1 : (ver_byWord.j0 k a0 a1 true t148 t148) = some r := by rw [if_pos rfl] at H; exact H
   clear H
   have H := H1
   clear H1
   have H' := Aside0.mk H
   clear H
   go_wp2
   go_meet
   case rel => exact ⟨_, (t148), (by first | rfl | (simp; done) | (simp [*]; done)), H', ⟨by first | omega | exact Nat.le_refl _⟩, ⟨by repeat (first | (with_reducible first | exact HB.out | apply yA_ | apply yN_ | apply yD_) | exact HB.out)⟩⟩
  ·replace c6 := Bool.eq_false_iff.mpr c6
   subst c6
   have H1 : (ver_byWord.j0 k a0 a1 false t148 false) = some r := by rw [if_neg (show ¬ (false = true) by decide)] at H; exact H
   clear H
   have H := H1
   clear H1
   have H' := Aside0.mk H
   clear H
   go_wp2
   go_meet
   case rel => exact ⟨_, (false), (by first | rfl | (simp; done) | (simp [*]; done)), H', ⟨by first | omega | exact Nat.le_refl _⟩, ⟨by repeat (first | (with_reducible first | exact HB.out | apply yA_ | apply yN_ | apply yD_) | exact HB.out)⟩⟩
 case rest =>
  clear HC5
  (try clear p2); (try clear c5); (try clear c6)
  obtain ⟨kq, x11_4, rfl, HA, HJ4, HB⟩ := hcut
  cases kq with
  | zero => exact absurd HA.out (by simp [ver_byWord.j0])
  | succ kj4 =>
   have H := HA.out
   clear HA
   simp only [ver_byWord.j0] at H
   by_cases c7 : x11_4 = true
   ·subst c7
    have H1 : ((cmp_Compare_int.f (a0.size : Int) (a1.size : Int)).bind fun t149 => ((strings_Compare.f a0 a1).bind fun t150 => ((cmp_Or_int.f kj4 (([t149, t150] : List Int))).bind fun t154 => (some t154)))) = some r := by rw [if_pos rfl] at H; exact H
    clear H
    have H := H1
    clear H1
    replace H := Option.bind_eq_some_iff.mp H
    obtain ⟨t149, A80, H⟩ := H
    replace H : ((strings_Compare.f a0 a1).bind fun t150 => ((cmp_Or_int.f kj4 (([t149, t150] : List Int))).bind fun t154 => (some t154))) = some r := H
    have A8 := Aside0.mk A80
    clear A80
    replace H := Option.bind_eq_some_iff.mp H
    obtain ⟨t150, A90, H⟩ := H
    replace H : ((cmp_Or_int.f kj4 (([t149, t150] : List Int))).bind fun t154 => (some t154)) = some r := H
    have A9 := Aside0.mk A90
    clear A90
    obtain ⟨y151, hy151⟩ : ∃ y_ : List Int, y_ = (([t149, t150] : List Int)) := ⟨_, rfl⟩
    replace H : ((cmp_Or_int.f kj4 y151).bind fun t154 => (some t154)) = some r := by first | (rw [hy151]; with_reducible exact H) | (have H2_ := (Option.bind_some _ _).symm.trans H; rw [hy151]; with_reducible exact H2_) | (have H2_ := (Option.bind_some _ _).symm.trans H; with_reducible exact H2_) | with_reducible exact H | (rw [hy151]; exact H) | exact H
    have Ny151 := Aside0.mk hy151
    clear hy151
    replace H := Option.bind_eq_some_iff.mp H
    obtain ⟨t154, A100, H⟩ := H
    replace H : (some t154) = some r := H
    have A10 := Aside0.mk A100
    clear A100
    obtain rfl := Option.some.inj H
    go_wp2_with (first | ((with_reducible refine gate_callee (f := 39) rfl ?_); refine goesL_ (some 20) rfl rfl Tryd.func39 (by kernel_rfl) rfl #[.int .i64 (a0.size : Int), .int .i64 (a1.size : Int)] rfl (by (try simp only [List.map_toArray, List.map_cons, List.map_nil]); first | done | rfl) ?_; (with_reducible refine (cmp_Compare_int.calls (a0.size : Int) (a1.size : Int) t149 _ A8.out).mono ?_); rintro e w' ⟨rfl, ⟨nd, rfl⟩⟩; refine ⟨_, rfl, ?_⟩) | (go_at_call 39; (with_reducible refine (cmp_Compare_int.calls (a0.size : Int) (a1.size : Int) t149 _ A8.out).mono ?_); rintro e w' ⟨rfl, ⟨nd, rfl⟩⟩) | ((with_reducible refine gate_callee (f := 71) rfl ?_); refine goesL_ (some 23) rfl rfl Tryd.func71 (by kernel_rfl) rfl #[.string a0, .string a1] rfl (by (try simp only [List.map_toArray, List.map_cons, List.map_nil]); first | done | rfl) ?_; (with_reducible refine (strings_Compare.calls a0 a1 t150 _ A9.out).mono ?_); rintro e w' ⟨rfl, ⟨nd, rfl⟩⟩; refine ⟨_, rfl, ?_⟩) | (go_at_call 71; (with_reducible refine (strings_Compare.calls a0 a1 t150 _ A9.out).mono ?_); rintro e w' ⟨rfl, ⟨nd, rfl⟩⟩) | ((with_reducible refine gate_dst (N := 24) rfl ?_); refine Kd.R_lit (Kd.int .i64) _ 3 ?hg (N := 24) ?hd (xs := ([t149, t150] : List Int)) (inner := [.int .i64 t149, .int .i64 t150]) (ok := fun _ => True) (okp := fun _ => True) ?hr ?hp (fun _ hk => hk) trivial (Below.refl _ _) (Nat.le_refl _) (by simp) ?_; (case hd => rfl); (case hg => rfl); (case hr => first | (go_simp; done) | (go_simp; rfl)); (case hp => exact (Reps.one (show Kd.M (Kd.int .i64) _ _ _ t149 [.int .i64 t149] from rfl) (Reps.one (show Kd.M (Kd.int .i64) _ _ _ t150 [.int .i64 t150] from rfl) (Reps.none _ _)))); intro v152 w11 ho12 hb hg_ hnew_; clear hg_ hnew_; (first | rw [← Ny151.out] at ho12 | (simp only [Int.reduceToNat] at ho12; rw [← Ny151.out] at ho12)); have n0_ := Aside0.mk (Kd.R_lower ho12 (below_size (by repeat (first | (with_reducible first | exact HB.out | apply yA_ | apply yN_ | apply yD_) | exact HB.out)))); have n1_ := Aside0.mk (below_step (by repeat (first | (with_reducible first | exact HB.out | apply yA_ | apply yN_ | apply yD_) | exact HB.out)) hb); clear HB; have HO153 := n0_; have HB := n1_; clear n0_ n1_; clear hb ho12; obtain ⟨Ao13, co13, eo13⟩ := Kd.R_slice HO153.out; subst eo13) | ((with_reducible refine gate_callee (f := 38) rfl ?_); refine goesL_ (some 25) rfl rfl Tryd.func38 (by kernel_rfl) rfl #[.slice Ao13 y151.length co13] rfl (by (try simp only [List.map_toArray, List.map_cons, List.map_nil]); first | done | rfl) ?_; (with_reducible refine (cmp_Or_int.calls kj4 _ _ y151 t154 _ ?side1 ?side2 A10.out).mono ?_); (case side1 => repeat (first | exact (Kd.R_reads' HO153.out).2.2 | (with_reducible refine Kd.C_alloc ?_ _) | (with_reducible refine Kd.C_drewN ?_ _) | (with_reducible refine Kd.C_drew ?_))); (case side2 => exact (Kd.R_reads' HO153.out).2.1); rintro e w' ⟨rfl, ⟨nd, rfl⟩⟩; refine ⟨_, rfl, ?_⟩) | (go_at_call 38; (with_reducible refine (cmp_Or_int.calls kj4 _ _ y151 t154 _ ?side1 ?side2 A10.out).mono ?_); (case side1 => repeat (first | exact (Kd.R_reads' HO153.out).2.2 | (with_reducible refine Kd.C_alloc ?_ _) | (with_reducible refine Kd.C_drewN ?_ _) | (with_reducible refine Kd.C_drew ?_))); (case side2 => exact (Kd.R_reads' HO153.out).2.1); rintro e w' ⟨rfl, ⟨nd, rfl⟩⟩))
    go_ret
    exact ⟨by first | rfl | (simp [errW_none, errW_some] <;> rfl) | (simp [*, errW_none, errW_some] <;> rfl), by repeat (first | (with_reducible first | exact HB.out | apply yA_ | apply yN_ | apply yD_) | exact HB.out)⟩
   ·replace c7 := Bool.eq_false_iff.mpr c7
    subst c7
    have H1 : (if t147 = true then (some (-1)) else (if t148 = true then (some 1) else ((strings_Compare.f a0 a1).bind fun t155 => (some t155)))) = some r := by rw [if_neg (show ¬ (false = true) by decide)] at H; exact H
    clear H
    have H := H1
    clear H1
    by_cases c14 : t147 = true
    ·subst c14
     have H1 : (some (-1)) = some r := by rw [if_pos rfl] at H; exact H
     clear H
     have H := H1
     clear H1
     obtain rfl := Option.some.inj H
     go_wp2
     go_ret
     exact ⟨by first | rfl | (simp [errW_none, errW_some] <;> rfl) | (simp [*, errW_none, errW_some] <;> rfl), by repeat (first | (with_reducible first | exact HB.out | apply yA_ | apply yN_ | apply yD_) | exact HB.out)⟩
    ·replace c14 := Bool.eq_false_iff.mpr c14
     subst c14
     have H1 : (if t148 = true then (some 1) else ((strings_Compare.f a0 a1).bind fun t155 => (some t155))) = some r := by rw [if_neg (show ¬ (false = true) by decide)] at H; exact H
     clear H
     have H := H1
     clear H1
     by_cases c15 : t148 = true
     ·subst c15
      have H1 : (some 1) = some r := by rw [if_pos rfl] at H; exact H
      clear H
      have H := H1
      clear H1
      obtain rfl := Option.some.inj H
      go_wp2
      go_ret
      exact ⟨by first | rfl | (simp [errW_none, errW_some] <;> rfl) | (simp [*, errW_none, errW_some] <;> rfl), by repeat (first | (with_reducible first | exact HB.out | apply yA_ | apply yN_ | apply yD_) | exact HB.out)⟩
     ·replace c15 := Bool.eq_false_iff.mpr c15
      subst c15
      have H1 : ((strings_Compare.f a0 a1).bind fun t155 => (some t155)) = some r := by rw [if_neg (show ¬ (false = true) by decide)] at H; exact H
      clear H
      have H := H1
      clear H1
      replace H := Option.bind_eq_some_iff.mp H
      obtain ⟨t155, A160, H⟩ := H
      replace H : (some t155) = some r := H
      have A16 := Aside0.mk A160
      clear A160
      obtain rfl := Option.some.inj H
      go_wp2_with (first | ((with_reducible refine gate_callee (f := 71) rfl ?_); refine goesL_ (some 32) rfl rfl Tryd.func71 (by kernel_rfl) rfl #[.string a0, .string a1] rfl (by (try simp only [List.map_toArray, List.map_cons, List.map_nil]); first | done | rfl) ?_; (with_reducible refine (strings_Compare.calls a0 a1 t155 _ A16.out).mono ?_); rintro e w' ⟨rfl, ⟨nd, rfl⟩⟩; refine ⟨_, rfl, ?_⟩) | (go_at_call 71; (with_reducible refine (strings_Compare.calls a0 a1 t155 _ A16.out).mono ?_); rintro e w' ⟨rfl, ⟨nd, rfl⟩⟩))
      go_ret
      exact ⟨by first | rfl | (simp [errW_none, errW_some] <;> rfl) | (simp [*, errW_none, errW_some] <;> rfl), by repeat (first | (with_reducible first | exact HB.out | apply yA_ | apply yN_ | apply yD_) | exact HB.out)⟩
section
attribute [local go_sem high] gtr_str
mutual
def armadaref07_words.j0 : Nat → ByteArray → ByteArray → Bool → Bool → Bool → Option (Int)
 | 0, _, _, _, _, _ => none
 | k + 1, x0, x1, x5, x6, x21 => if x21 = true then ((armadaref07_order.f (x0.size : Int) (x1.size : Int)).bind fun t316 => (some t316)) else (if x5 = true then (armadaref07_words.j1 k x0 x1 x5 x6 (!x6)) else (armadaref07_words.j1 k x0 x1 x5 x6 false))
def armadaref07_words.j1 : Nat → ByteArray → ByteArray → Bool → Bool → Bool → Option (Int)
 | 0, _, _, _, _, _ => none
 | k + 1, x0, x1, x5, x6, x31 => if x31 = true then (some (-1)) else (if x6 = true then (armadaref07_words.j2 k x0 x1 (!x5)) else (armadaref07_words.j2 k x0 x1 false))
def armadaref07_words.j2 : Nat → ByteArray → ByteArray → Bool → Option (Int)
 | 0, _, _, _ => none
 | k + 1, x0, x1, x36 => if x36 = true then (some 1) else (if (Op.bytesLess x0.toList x1.toList) = true then (some (-1)) else (if (Op.bytesLess x1.toList x0.toList) = true then (some 1) else (some 0)))
end
def armadaref07_words.f (k : Nat) (a0 : ByteArray) (a1 : ByteArray) : Option (Int) := (armadaref07_digits.f k a0).bind fun t314 => ((armadaref07_digits.f k a1).bind fun t315 => (if t314 = true then (if t315 = true then (armadaref07_words.j0 k a0 a1 t314 t315 ((a0.size : Int) != (a1.size : Int))) else (armadaref07_words.j0 k a0 a1 t314 t315 false)) else (armadaref07_words.j0 k a0 a1 t314 t315 false)))
theorem armadaref07_words.mono_l : ∀ k, (∀ y0 y1 y2 y3 y4, LeO (armadaref07_words.j0 k y0 y1 y2 y3 y4) (armadaref07_words.j0 (k + 1) y0 y1 y2 y3 y4)) ∧ (∀ y0 y1 y2 y3 y4, LeO (armadaref07_words.j1 k y0 y1 y2 y3 y4) (armadaref07_words.j1 (k + 1) y0 y1 y2 y3 y4)) ∧ (∀ y0 y1 y2, LeO (armadaref07_words.j2 k y0 y1 y2) (armadaref07_words.j2 (k + 1) y0 y1 y2))
 | 0 => ⟨fun _ _ _ _ _ r h => by simp [armadaref07_words.j0] at h, fun _ _ _ _ _ r h => by simp [armadaref07_words.j1] at h, fun _ _ _ r h => by simp [armadaref07_words.j2] at h⟩
 | k + 1 => by
  obtain ⟨ih0, ih1, ih2⟩ := armadaref07_words.mono_l k
  refine ⟨?_, ?_, ?_⟩
  ·intro y0 y1 y2 y3 y4
   unfold armadaref07_words.j0
   repeat' first
   | (with_reducible exact ih0 _ _ _ _ _)
   | (with_reducible exact ih1 _ _ _ _ _)
   | (with_reducible exact ih2 _ _ _)
   | (with_reducible exact armadaref07_digits.mono _ _)
   | (with_reducible exact LeO.refl _)
   | (with_reducible exact LeO.none _)
   | (with_reducible refine LeO.ite ?_ ?_)
   | (with_reducible refine LeO.bind ?_ (fun _ => ?_))
   | exact ih0 _ _ _ _ _
   | exact ih1 _ _ _ _ _
   | exact ih2 _ _ _
   | exact armadaref07_digits.mono _ _
   | exact LeO.none _
   | refine LeO.ite ?_ ?_
   | refine LeO.bind ?_ (fun _ => ?_)
  ·intro y0 y1 y2 y3 y4
   unfold armadaref07_words.j1
   repeat' first
   | (with_reducible exact ih0 _ _ _ _ _)
   | (with_reducible exact ih1 _ _ _ _ _)
   | (with_reducible exact ih2 _ _ _)
   | (with_reducible exact armadaref07_digits.mono _ _)
   | (with_reducible exact LeO.refl _)
   | (with_reducible exact LeO.none _)
   | (with_reducible refine LeO.ite ?_ ?_)
   | (with_reducible refine LeO.bind ?_ (fun _ => ?_))
   | exact ih0 _ _ _ _ _
   | exact ih1 _ _ _ _ _
   | exact ih2 _ _ _
   | exact armadaref07_digits.mono _ _
   | exact LeO.none _
   | refine LeO.ite ?_ ?_
   | refine LeO.bind ?_ (fun _ => ?_)
  ·intro y0 y1 y2
   unfold armadaref07_words.j2
   repeat' first
   | (with_reducible exact ih0 _ _ _ _ _)
   | (with_reducible exact ih1 _ _ _ _ _)
   | (with_reducible exact ih2 _ _ _)
   | (with_reducible exact armadaref07_digits.mono _ _)
   | (with_reducible exact LeO.refl _)
   | (with_reducible exact LeO.none _)
   | (with_reducible refine LeO.ite ?_ ?_)
   | (with_reducible refine LeO.bind ?_ (fun _ => ?_))
   | exact ih0 _ _ _ _ _
   | exact ih1 _ _ _ _ _
   | exact ih2 _ _ _
   | exact armadaref07_digits.mono _ _
   | exact LeO.none _
   | refine LeO.ite ?_ ?_
   | refine LeO.bind ?_ (fun _ => ?_)
theorem armadaref07_words.mono : ∀ a0 a1 k, LeO (armadaref07_words.f k a0 a1) (armadaref07_words.f (k + 1) a0 a1) := by
 intro a0 a1 k
 obtain ⟨ih0, ih1, ih2⟩ := armadaref07_words.mono_l k
 unfold armadaref07_words.f
 repeat' first
   | (with_reducible exact ih0 _ _ _ _ _)
   | (with_reducible exact ih1 _ _ _ _ _)
   | (with_reducible exact ih2 _ _ _)
   | (with_reducible exact armadaref07_digits.mono _ _)
   | (with_reducible exact LeO.refl _)
   | (with_reducible exact LeO.none _)
   | (with_reducible refine LeO.ite ?_ ?_)
   | (with_reducible refine LeO.bind ?_ (fun _ => ?_))
   | exact ih0 _ _ _ _ _
   | exact ih1 _ _ _ _ _
   | exact ih2 _ _ _
   | exact armadaref07_digits.mono _ _
   | exact LeO.none _
   | refine LeO.ite ?_ ?_
   | refine LeO.bind ?_ (fun _ => ?_)
set_option maxHeartbeats 8000000 in
set_option maxRecDepth 100000 in
theorem armadaref07_words.calls (k : Nat) (a0 : ByteArray) (a1 : ByteArray) (r : Int) (w : World) (h : armadaref07_words.f k a0 a1 = some r) :
  Calls Tryd.prog 57 #[.string a0, .string a1] w fun e w' => e = .returned (.int .i64 r) ∧ Drawn0 w w' := by
 have H : ((armadaref07_digits.f k a0).bind fun t314 => ((armadaref07_digits.f k a1).bind fun t315 => (if t314 = true then (if t315 = true then (armadaref07_words.j0 k a0 a1 t314 t315 ((a0.size : Int) != (a1.size : Int))) else (armadaref07_words.j0 k a0 a1 t314 t315 false)) else (armadaref07_words.j0 k a0 a1 t314 t315 false)))) = some r := h
 clear h
 replace H := Option.bind_eq_some_iff.mp H
 obtain ⟨t314, A30, H⟩ := H
 replace H : ((armadaref07_digits.f k a1).bind fun t315 => (if t314 = true then (if t315 = true then (armadaref07_words.j0 k a0 a1 t314 t315 ((a0.size : Int) != (a1.size : Int))) else (armadaref07_words.j0 k a0 a1 t314 t315 false)) else (armadaref07_words.j0 k a0 a1 t314 t315 false))) = some r := H
 have A3 := Aside0.mk A30
 clear A30
 replace H := Option.bind_eq_some_iff.mp H
 obtain ⟨t315, A40, H⟩ := H
 replace H : (if t314 = true then (if t315 = true then (armadaref07_words.j0 k a0 a1 t314 t315 ((a0.size : Int) != (a1.size : Int))) else (armadaref07_words.j0 k a0 a1 t314 t315 false)) else (armadaref07_words.j0 k a0 a1 t314 t315 false)) = some r := H
 have A4 := Aside0.mk A40
 clear A40
 have HC5 := Aside0.mk H
 clear H
 go_enter Tryd.func57, Tryd.ntmps57
 go_upto_region 3 with (first | ((with_reducible refine gate_callee (f := 48) rfl ?_); refine goesL_ (some 8) rfl rfl Tryd.func48 (by kernel_rfl) rfl #[.string a0] rfl (by (try simp only [List.map_toArray, List.map_cons, List.map_nil]); first | done | rfl) ?_; (with_reducible refine (armadaref07_digits.calls k a0 t314 _ A3.out).mono ?_); rintro e w' ⟨rfl, ⟨nd, rfl⟩⟩; refine ⟨_, rfl, ?_⟩) | (go_at_call 48; (with_reducible refine (armadaref07_digits.calls k a0 t314 _ A3.out).mono ?_); rintro e w' ⟨rfl, ⟨nd, rfl⟩⟩) | ((with_reducible refine gate_callee (f := 48) rfl ?_); refine goesL_ (some 10) rfl rfl Tryd.func48 (by kernel_rfl) rfl #[.string a1] rfl (by (try simp only [List.map_toArray, List.map_cons, List.map_nil]); first | done | rfl) ?_; (with_reducible refine (armadaref07_digits.calls k a1 t315 _ A4.out).mono ?_); rintro e w' ⟨rfl, ⟨nd, rfl⟩⟩; refine ⟨_, rfl, ?_⟩) | (go_at_call 48; (with_reducible refine (armadaref07_digits.calls k a1 t315 _ A4.out).mono ?_); rintro e w' ⟨rfl, ⟨nd, rfl⟩⟩))
 (try simp only [Act.put, List.setIfInBounds_toArray, List.set_cons_zero, List.set_cons_succ])
 go_cut [21] (fun v21 wc => ∃ (kq : Nat) (x21_4 : Bool), v21 = .bool x21_4 ∧ Aside0 (armadaref07_words.j0 kq a0 a1 t314 t315 x21_4 = some r) ∧ Aside0 (kq ≤ k) ∧ Drawn0 w wc)
 case first =>
  have H := HC5.out
  clear HC5
  by_cases c6 : t314 = true
  ·subst c6
   have H1 : (if t315 = true then (armadaref07_words.j0 k a0 a1 true t315 ((a0.size : Int) != (a1.size : Int))) else (armadaref07_words.j0 k a0 a1 true t315 false)) = some r := by rw [if_pos rfl] at H; exact H
   clear H
   have H := H1
   clear H1
   by_cases c7 : t315 = true
   ·subst c7
    have H1 : (armadaref07_words.j0 k a0 a1 true true ((a0.size : Int) != (a1.size : Int))) = some r := by rw [if_pos rfl] at H; exact H
    clear H
    have H := H1
    clear H1
    have H' := Aside0.mk H
    clear H
    go_wp2
    go_meet
    case rel => exact ⟨_, (((a0.size : Int) != (a1.size : Int))), (by first | rfl | (simp; done) | (simp [*]; done)), H', ⟨by first | omega | exact Nat.le_refl _⟩, by repeat (first | exact Drawn0.refl _ | apply Drawn0.step)⟩
   ·replace c7 := Bool.eq_false_iff.mpr c7
    subst c7
    have H1 : (armadaref07_words.j0 k a0 a1 true false false) = some r := by rw [if_neg (show ¬ (false = true) by decide)] at H; exact H
    clear H
    have H := H1
    clear H1
    have H' := Aside0.mk H
    clear H
    go_wp2
    go_meet
    case rel => exact ⟨_, (false), (by first | rfl | (simp; done) | (simp [*]; done)), H', ⟨by first | omega | exact Nat.le_refl _⟩, by repeat (first | exact Drawn0.refl _ | apply Drawn0.step)⟩
  ·replace c6 := Bool.eq_false_iff.mpr c6
   subst c6
   have H1 : (armadaref07_words.j0 k a0 a1 false t315 false) = some r := by rw [if_neg (show ¬ (false = true) by decide)] at H; exact H
   clear H
   have H := H1
   clear H1
   have H' := Aside0.mk H
   clear H
   go_wp2
   go_meet
   case rel => exact ⟨_, (false), (by first | rfl | (simp; done) | (simp [*]; done)), H', ⟨by first | omega | exact Nat.le_refl _⟩, by repeat (first | exact Drawn0.refl _ | apply Drawn0.step)⟩
 case rest =>
  clear HC5
  (try clear p2); (try clear c4); (try clear c5); (try clear c6); (try clear c7)
  obtain ⟨kq, x21_4, rfl, HA, HJ4, ⟨mc4, rfl⟩⟩ := hcut
  cases kq with
  | zero => exact absurd HA.out (by simp [armadaref07_words.j0])
  | succ kj4 =>
   have H := HA.out
   clear HA
   simp only [armadaref07_words.j0] at H
   by_cases c8 : x21_4 = true
   ·subst c8
    have H1 : ((armadaref07_order.f (a0.size : Int) (a1.size : Int)).bind fun t316 => (some t316)) = some r := by rw [if_pos rfl] at H; exact H
    clear H
    have H := H1
    clear H1
    replace H := Option.bind_eq_some_iff.mp H
    obtain ⟨t316, A90, H⟩ := H
    replace H : (some t316) = some r := H
    have A9 := Aside0.mk A90
    clear A90
    obtain rfl := Option.some.inj H
    go_wp2_with (first | ((with_reducible refine gate_callee (f := 41) rfl ?_); refine goesL_ (some 26) rfl rfl Tryd.func41 (by kernel_rfl) rfl #[.int .i64 (a0.size : Int), .int .i64 (a1.size : Int)] rfl (by (try simp only [List.map_toArray, List.map_cons, List.map_nil]); first | done | rfl) ?_; (with_reducible refine (armadaref07_order.calls (a0.size : Int) (a1.size : Int) t316 _ A9.out).mono ?_); rintro e w' ⟨rfl, ⟨nd, rfl⟩⟩; refine ⟨_, rfl, ?_⟩) | (go_at_call 41; (with_reducible refine (armadaref07_order.calls (a0.size : Int) (a1.size : Int) t316 _ A9.out).mono ?_); rintro e w' ⟨rfl, ⟨nd, rfl⟩⟩))
    go_ret
    exact ⟨by first | rfl | (simp; done) | (simp [*]; done), by repeat (first | exact Drawn0.refl _ | apply Drawn0.step)⟩
   ·replace c8 := Bool.eq_false_iff.mpr c8
    subst c8
    have H1 : (if t314 = true then (armadaref07_words.j1 kj4 a0 a1 t314 t315 (!t315)) else (armadaref07_words.j1 kj4 a0 a1 t314 t315 false)) = some r := by rw [if_neg (show ¬ (false = true) by decide)] at H; exact H
    clear H
    have H := H1
    clear H1
    have HC10 := Aside0.mk H
    clear H
    go_upto_region 5 with (fail)
    go_cut [31] (fun v31 wc => ∃ (kq : Nat) (x31_9 : Bool), v31 = .bool x31_9 ∧ Aside0 (armadaref07_words.j1 kq a0 a1 t314 t315 x31_9 = some r) ∧ Aside0 (kq ≤ kj4) ∧ Drawn0 w wc)
    case first =>
     have H := HC10.out
     clear HC10
     by_cases c11 : t314 = true
     ·subst c11
      have H1 : (armadaref07_words.j1 kj4 a0 a1 true t315 (!t315)) = some r := by rw [if_pos rfl] at H; exact H
      clear H
      have H := H1
      clear H1
      have H' := Aside0.mk H
      clear H
      go_wp2
      go_meet
      case rel => exact ⟨_, (!t315), (by first | rfl | (simp; done) | (simp [*]; done)), H', ⟨by have := HJ4.out; first | omega | exact Nat.le_refl _⟩, by repeat (first | exact Drawn0.refl _ | apply Drawn0.step)⟩
     ·replace c11 := Bool.eq_false_iff.mpr c11
      subst c11
      have H1 : (armadaref07_words.j1 kj4 a0 a1 false t315 false) = some r := by rw [if_neg (show ¬ (false = true) by decide)] at H; exact H
      clear H
      have H := H1
      clear H1
      have H' := Aside0.mk H
      clear H
      go_wp2
      go_meet
      case rel => exact ⟨_, (false), (by first | rfl | (simp; done) | (simp [*]; done)), H', ⟨by have := HJ4.out; first | omega | exact Nat.le_refl _⟩, by repeat (first | exact Drawn0.refl _ | apply Drawn0.step)⟩
    case rest =>
     clear HC10
     (try clear c1); (try clear p2); (try clear c4); (try clear c5); (try clear c6); (try clear c7); (try clear c8); (try clear c11); (try clear p2)
     obtain ⟨kq, x31_9, rfl, HA, HJ9, ⟨mc9, rfl⟩⟩ := hcut
     cases kq with
     | zero => exact absurd HA.out (by simp [armadaref07_words.j1])
     | succ kj9 =>
      have H := HA.out
      clear HA
      simp only [armadaref07_words.j1] at H
      by_cases c12 : x31_9 = true
      ·subst c12
       have H1 : (some (-1)) = some r := by rw [if_pos rfl] at H; exact H
       clear H
       have H := H1
       clear H1
       obtain rfl := Option.some.inj H
       go_wp2
       go_ret
       exact ⟨by first | rfl | (simp; done) | (simp [*]; done), by repeat (first | exact Drawn0.refl _ | apply Drawn0.step)⟩
      ·replace c12 := Bool.eq_false_iff.mpr c12
       subst c12
       have H1 : (if t315 = true then (armadaref07_words.j2 kj9 a0 a1 (!t314)) else (armadaref07_words.j2 kj9 a0 a1 false)) = some r := by rw [if_neg (show ¬ (false = true) by decide)] at H; exact H
       clear H
       have H := H1
       clear H1
       have HC13 := Aside0.mk H
       clear H
       go_upto_region 7 with (fail)
       go_cut [36] (fun v36 wc => ∃ (kq : Nat) (x36_12 : Bool), v36 = .bool x36_12 ∧ Aside0 (armadaref07_words.j2 kq a0 a1 x36_12 = some r) ∧ Aside0 (kq ≤ kj9) ∧ Drawn0 w wc)
       case first =>
        have H := HC13.out
        clear HC13
        by_cases c14 : t315 = true
        ·subst c14
         have H1 : (armadaref07_words.j2 kj9 a0 a1 (!t314)) = some r := by rw [if_pos rfl] at H; exact H
         clear H
         have H := H1
         clear H1
         have H' := Aside0.mk H
         clear H
         go_wp2
         go_meet
         case rel => exact ⟨_, (!t314), (by first | rfl | (simp; done) | (simp [*]; done)), H', ⟨by have := HJ4.out; have := HJ9.out; first | omega | exact Nat.le_refl _⟩, by repeat (first | exact Drawn0.refl _ | apply Drawn0.step)⟩
        ·replace c14 := Bool.eq_false_iff.mpr c14
         subst c14
         have H1 : (armadaref07_words.j2 kj9 a0 a1 false) = some r := by rw [if_neg (show ¬ (false = true) by decide)] at H; exact H
         clear H
         have H := H1
         clear H1
         have H' := Aside0.mk H
         clear H
         go_wp2
         go_meet
         case rel => exact ⟨_, (false), (by first | rfl | (simp; done) | (simp [*]; done)), H', ⟨by have := HJ4.out; have := HJ9.out; first | omega | exact Nat.le_refl _⟩, by repeat (first | exact Drawn0.refl _ | apply Drawn0.step)⟩
       case rest =>
        clear HC13
        (try clear c1); (try clear p2); (try clear c4); (try clear c5); (try clear c6); (try clear c7); (try clear c8); (try clear c9); (try clear c11); (try clear c12)
        (try clear c14); (try clear p2)
        obtain ⟨kq, x36_12, rfl, HA, HJ12, ⟨mc12, rfl⟩⟩ := hcut
        cases kq with
        | zero => exact absurd HA.out (by simp [armadaref07_words.j2])
        | succ kj12 =>
         have H := HA.out
         clear HA
         simp only [armadaref07_words.j2] at H
         by_cases c15 : x36_12 = true
         ·subst c15
          have H1 : (some 1) = some r := by rw [if_pos rfl] at H; exact H
          clear H
          have H := H1
          clear H1
          obtain rfl := Option.some.inj H
          go_wp2
          go_ret
          exact ⟨by first | rfl | (simp; done) | (simp [*]; done), by repeat (first | exact Drawn0.refl _ | apply Drawn0.step)⟩
         ·replace c15 := Bool.eq_false_iff.mpr c15
          subst c15
          have H1 : (if (Op.bytesLess a0.toList a1.toList) = true then (some (-1)) else (if (Op.bytesLess a1.toList a0.toList) = true then (some 1) else (some 0))) = some r := by rw [if_neg (show ¬ (false = true) by decide)] at H; exact H
          clear H
          have H := H1
          clear H1
          by_cases c16 : (Op.bytesLess a0.toList a1.toList) = true
          ·rw [if_pos c16] at H
           have c16b0 : (Op.bytesLess a0.toList a1.toList) = true := c16
           clear c16
           obtain rfl := Option.some.inj H
           go_wp2
           go_ret
           exact ⟨by first | rfl | (simp; done) | (simp [*]; done), by repeat (first | exact Drawn0.refl _ | apply Drawn0.step)⟩
          ·rw [if_neg c16] at H
           have c16b0 : (Op.bytesLess a0.toList a1.toList) = false := by simpa using c16
           clear c16
           by_cases c17 : (Op.bytesLess a1.toList a0.toList) = true
           ·rw [if_pos c17] at H
            have c17b0 : (Op.bytesLess a1.toList a0.toList) = true := c17
            clear c17
            obtain rfl := Option.some.inj H
            go_wp2
            go_ret
            exact ⟨by first | rfl | (simp; done) | (simp [*]; done), by repeat (first | exact Drawn0.refl _ | apply Drawn0.step)⟩
           ·rw [if_neg c17] at H
            have c17b0 : (Op.bytesLess a1.toList a0.toList) = false := by simpa using c17
            clear c17
            obtain rfl := Option.some.inj H
            go_wp2
            go_ret
            exact ⟨by first | rfl | (simp; done) | (simp [*]; done), by repeat (first | exact Drawn0.refl _ | apply Drawn0.step)⟩
end
mutual
def armadaref07_pre.j0 : Nat → ByteArray → ByteArray → Bool → Option (Int)
 | 0, _, _, _ => none
 | k + 1, x0, x1, x13 => if x13 = true then ((armadaref07_one.f (x0.toList == ([] : List UInt8))).bind fun t317 => ((armadaref07_one.f (x1.toList == ([] : List UInt8))).bind fun t318 => ((armadaref07_order.f t317 t318).bind fun t319 => (some t319)))) else ((armadaref05_Split.f k x0 46).bind fun t320 => ((armadaref05_Split.f k x1 46).bind fun t323 => (armadaref07_pre.l0 k t320 t323 0)))
def armadaref07_pre.l0 : Nat → List ByteArray → List ByteArray → Int → Option (Int)
 | 0, _, _, _ => none
 | k + 1, x5, x6, x7 => if x7 < (x5.length : Int) then (armadaref07_pre.j2 k x5 x6 x7 (decide (x7 < (x6.length : Int)))) else (armadaref07_pre.j2 k x5 x6 x7 false)
def armadaref07_pre.j2 : Nat → List ByteArray → List ByteArray → Int → Bool → Option (Int)
 | 0, _, _, _, _ => none
 | k + 1, x5, x6, x7, x34 => if x34 = true then (if 0 ≤ x7 then (if x7 < (x5.length : Int) then (if x7 < (x6.length : Int) then ((armadaref07_words.f k (rdOf ByteArray.empty x5 x7) (rdOf ByteArray.empty x6 x7)).bind fun t329 => (if t329 = 0 then (armadaref07_pre.l0 k x5 x6 (wrap64 (x7 + 1))) else (some t329))) else (none)) else (none)) else (none)) else ((armadaref07_order.f (x5.length : Int) (x6.length : Int)).bind fun t326 => (some t326))
end
def armadaref07_pre.f (k : Nat) (a0 : ByteArray) (a1 : ByteArray) : Option (Int) := if a0.toList = ([] : List UInt8) then (armadaref07_pre.j0 k a0 a1 true) else (armadaref07_pre.j0 k a0 a1 (a1.toList == ([] : List UInt8)))
theorem armadaref07_pre.mono_l : ∀ k, (∀ y0 y1 y2, LeO (armadaref07_pre.j0 k y0 y1 y2) (armadaref07_pre.j0 (k + 1) y0 y1 y2)) ∧ (∀ y0 y1 y2, LeO (armadaref07_pre.l0 k y0 y1 y2) (armadaref07_pre.l0 (k + 1) y0 y1 y2)) ∧ (∀ y0 y1 y2 y3, LeO (armadaref07_pre.j2 k y0 y1 y2 y3) (armadaref07_pre.j2 (k + 1) y0 y1 y2 y3))
 | 0 => ⟨fun _ _ _ r h => by simp [armadaref07_pre.j0] at h, fun _ _ _ r h => by simp [armadaref07_pre.l0] at h, fun _ _ _ _ r h => by simp [armadaref07_pre.j2] at h⟩
 | k + 1 => by
  obtain ⟨ih0, ih1, ih2⟩ := armadaref07_pre.mono_l k
  refine ⟨?_, ?_, ?_⟩
  ·intro y0 y1 y2
   unfold armadaref07_pre.j0
   repeat' first
   | (with_reducible exact ih0 _ _ _)
   | (with_reducible exact ih1 _ _ _)
   | (with_reducible exact ih2 _ _ _ _)
   | (with_reducible exact armadaref05_Split.mono _ _ _)
   | (with_reducible exact armadaref07_words.mono _ _ _)
   | (with_reducible exact LeO.refl _)
   | (with_reducible exact LeO.none _)
   | (with_reducible refine LeO.ite ?_ ?_)
   | (with_reducible refine LeO.bind ?_ (fun _ => ?_))
   | exact ih0 _ _ _
   | exact ih1 _ _ _
   | exact ih2 _ _ _ _
   | exact armadaref05_Split.mono _ _ _
   | exact armadaref07_words.mono _ _ _
   | exact LeO.none _
   | refine LeO.ite ?_ ?_
   | refine LeO.bind ?_ (fun _ => ?_)
  ·intro y0 y1 y2
   unfold armadaref07_pre.l0
   repeat' first
   | (with_reducible exact ih0 _ _ _)
   | (with_reducible exact ih1 _ _ _)
   | (with_reducible exact ih2 _ _ _ _)
   | (with_reducible exact armadaref05_Split.mono _ _ _)
   | (with_reducible exact armadaref07_words.mono _ _ _)
   | (with_reducible exact LeO.refl _)
   | (with_reducible exact LeO.none _)
   | (with_reducible refine LeO.ite ?_ ?_)
   | (with_reducible refine LeO.bind ?_ (fun _ => ?_))
   | exact ih0 _ _ _
   | exact ih1 _ _ _
   | exact ih2 _ _ _ _
   | exact armadaref05_Split.mono _ _ _
   | exact armadaref07_words.mono _ _ _
   | exact LeO.none _
   | refine LeO.ite ?_ ?_
   | refine LeO.bind ?_ (fun _ => ?_)
  ·intro y0 y1 y2 y3
   unfold armadaref07_pre.j2
   repeat' first
   | (with_reducible exact ih0 _ _ _)
   | (with_reducible exact ih1 _ _ _)
   | (with_reducible exact ih2 _ _ _ _)
   | (with_reducible exact armadaref05_Split.mono _ _ _)
   | (with_reducible exact armadaref07_words.mono _ _ _)
   | (with_reducible exact LeO.refl _)
   | (with_reducible exact LeO.none _)
   | (with_reducible refine LeO.ite ?_ ?_)
   | (with_reducible refine LeO.bind ?_ (fun _ => ?_))
   | exact ih0 _ _ _
   | exact ih1 _ _ _
   | exact ih2 _ _ _ _
   | exact armadaref05_Split.mono _ _ _
   | exact armadaref07_words.mono _ _ _
   | exact LeO.none _
   | refine LeO.ite ?_ ?_
   | refine LeO.bind ?_ (fun _ => ?_)
theorem armadaref07_pre.mono : ∀ a0 a1 k, LeO (armadaref07_pre.f k a0 a1) (armadaref07_pre.f (k + 1) a0 a1) := by
 intro a0 a1 k
 obtain ⟨ih0, ih1, ih2⟩ := armadaref07_pre.mono_l k
 unfold armadaref07_pre.f
 repeat' first
   | (with_reducible exact ih0 _ _ _)
   | (with_reducible exact ih1 _ _ _)
   | (with_reducible exact ih2 _ _ _ _)
   | (with_reducible exact armadaref05_Split.mono _ _ _)
   | (with_reducible exact armadaref07_words.mono _ _ _)
   | (with_reducible exact LeO.refl _)
   | (with_reducible exact LeO.none _)
   | (with_reducible refine LeO.ite ?_ ?_)
   | (with_reducible refine LeO.bind ?_ (fun _ => ?_))
   | exact ih0 _ _ _
   | exact ih1 _ _ _
   | exact ih2 _ _ _ _
   | exact armadaref05_Split.mono _ _ _
   | exact armadaref07_words.mono _ _ _
   | exact LeO.none _
   | refine LeO.ite ?_ ?_
   | refine LeO.bind ?_ (fun _ => ?_)
set_option maxHeartbeats 8000000 in
set_option maxRecDepth 100000 in
theorem armadaref07_pre.calls (k : Nat) (a0 : ByteArray) (a1 : ByteArray) (r : Int) (w : World) (h : armadaref07_pre.f k a0 a1 = some r) :
  Calls Tryd.prog 42 #[.string a0, .string a1] w fun e w' => e = .returned (.int .i64 r) ∧ Below w.heap.size w w' := by
 have HB := Aside0.mk (Below.refl w.heap.size w)
 have H : (if a0.toList = ([] : List UInt8) then (armadaref07_pre.j0 k a0 a1 true) else (armadaref07_pre.j0 k a0 a1 (a1.toList == ([] : List UInt8)))) = some r := h
 clear h
 have HC3 := Aside0.mk H
 clear H
 go_enter Tryd.func42, Tryd.ntmps42
 go_upto_region 1 with (fail)
 repeat (go_quiet (fail); go_upto_region 1 with (fail))
 go_cut [13] (fun v13 wc => ∃ (kq : Nat) (x13_2 : Bool), v13 = .bool x13_2 ∧ Aside0 (armadaref07_pre.j0 kq a0 a1 x13_2 = some r) ∧ Aside0 (kq ≤ k) ∧ Aside0 (Below w.heap.size w wc))
 case first =>
  have H := HC3.out
  clear HC3
  by_cases c4 : a0.toList = ([] : List UInt8)
  ·rw [if_pos c4] at H
   have c4b0 : (a0.toList == ([] : List UInt8)) = true := beq_iff_eq.mpr c4
   have c4b1 : (a0.toList != ([] : List UInt8)) = false := bne_eq_false_iff_eq.mpr c4
   clear c4
   (first | rw [c4b0] | (simp only [i64_w, i32_w]; rw [c4b0]) | skip)
   have H' := Aside0.mk H
   clear H
   go_wp2
   repeat (go_quiet (fail); try go_wp2)
   go_meet
   case rel => exact ⟨_, (true), (by first | rfl | (simp; done) | (simp [*]; done)), H', ⟨by first | omega | exact Nat.le_refl _⟩, ⟨by repeat (first | (with_reducible first | exact HB.out | apply yA_ | apply yN_ | apply yD_) | exact HB.out)⟩⟩
  ·rw [if_neg c4] at H
   have c4b0 : (a0.toList == ([] : List UInt8)) = false := beq_eq_false_iff_ne.mpr c4
   have c4b1 : (a0.toList != ([] : List UInt8)) = true := bne_iff_ne.mpr c4
   (first | rw [c4b0] | (simp only [i64_w, i32_w]; rw [c4b0]) | skip)
   have H' := Aside0.mk H
   clear H
   go_wp2
   repeat (go_quiet (fail); try go_wp2)
   go_meet
   case rel => exact ⟨_, ((a1.toList == ([] : List UInt8))), (by first | rfl | (simp; done) | (simp [*]; done)), H', ⟨by first | omega | exact Nat.le_refl _⟩, ⟨by repeat (first | (with_reducible first | exact HB.out | apply yA_ | apply yN_ | apply yD_) | exact HB.out)⟩⟩
 case rest =>
  clear HC3
  (try clear p2); (try clear c4); (try clear c4b0); (try clear c4b1)
  obtain ⟨kq, x13_2, rfl, HA, HJ2, HB⟩ := hcut
  cases kq with
  | zero => exact absurd HA.out (by simp [armadaref07_pre.j0])
  | succ kj2 =>
   have H := HA.out
   clear HA
   simp only [armadaref07_pre.j0] at H
   by_cases c5 : x13_2 = true
   ·subst c5
    have H1 : ((armadaref07_one.f (a0.toList == ([] : List UInt8))).bind fun t317 => ((armadaref07_one.f (a1.toList == ([] : List UInt8))).bind fun t318 => ((armadaref07_order.f t317 t318).bind fun t319 => (some t319)))) = some r := by rw [if_pos rfl] at H; exact H
    clear H
    have H := H1
    clear H1
    replace H := Option.bind_eq_some_iff.mp H
    obtain ⟨t317, A60, H⟩ := H
    replace H : ((armadaref07_one.f (a1.toList == ([] : List UInt8))).bind fun t318 => ((armadaref07_order.f t317 t318).bind fun t319 => (some t319))) = some r := H
    have A6 := Aside0.mk A60
    clear A60
    replace H := Option.bind_eq_some_iff.mp H
    obtain ⟨t318, A70, H⟩ := H
    replace H : ((armadaref07_order.f t317 t318).bind fun t319 => (some t319)) = some r := H
    have A7 := Aside0.mk A70
    clear A70
    replace H := Option.bind_eq_some_iff.mp H
    obtain ⟨t319, A80, H⟩ := H
    replace H : (some t319) = some r := H
    have A8 := Aside0.mk A80
    clear A80
    obtain rfl := Option.some.inj H
    go_wp2_with (first | (go_at_call 56; (with_reducible refine (armadaref07_one.calls (a0.toList.isEmpty) t317 _ (beq_nil a0.toList ▸ A6.out)).mono ?_); rintro e w' ⟨rfl, ⟨nd, rfl⟩⟩; (try first | exact ⟨rfl, _, World.drewN_drewN _ _ _⟩ | exact ⟨rfl, _, Eq.trans (World.drewN_drewN _ _ _) (congrArg (World.drewN _) (Nat.add_assoc _ _ _))⟩)) | (go_at_call 56; (with_reducible refine (armadaref07_one.calls (a1.toList.isEmpty) t318 _ (beq_nil a1.toList ▸ A7.out)).mono ?_); rintro e w' ⟨rfl, ⟨nd, rfl⟩⟩; (try first | exact ⟨rfl, _, World.drewN_drewN _ _ _⟩ | exact ⟨rfl, _, Eq.trans (World.drewN_drewN _ _ _) (congrArg (World.drewN _) (Nat.add_assoc _ _ _))⟩)) | (go_at_call 41; (with_reducible refine (armadaref07_order.calls t317 t318 t319 _ A8.out).mono ?_); rintro e w' ⟨rfl, ⟨nd, rfl⟩⟩; (try first | exact ⟨rfl, _, World.drewN_drewN _ _ _⟩ | exact ⟨rfl, _, Eq.trans (World.drewN_drewN _ _ _) (congrArg (World.drewN _) (Nat.add_assoc _ _ _))⟩)))
    repeat (go_quiet (first | (go_at_call 56; (with_reducible refine (armadaref07_one.calls (a0.toList.isEmpty) t317 _ (beq_nil a0.toList ▸ A6.out)).mono ?_); rintro e w' ⟨rfl, ⟨nd, rfl⟩⟩; (try first | exact ⟨rfl, _, World.drewN_drewN _ _ _⟩ | exact ⟨rfl, _, Eq.trans (World.drewN_drewN _ _ _) (congrArg (World.drewN _) (Nat.add_assoc _ _ _))⟩)) | (go_at_call 56; (with_reducible refine (armadaref07_one.calls (a1.toList.isEmpty) t318 _ (beq_nil a1.toList ▸ A7.out)).mono ?_); rintro e w' ⟨rfl, ⟨nd, rfl⟩⟩; (try first | exact ⟨rfl, _, World.drewN_drewN _ _ _⟩ | exact ⟨rfl, _, Eq.trans (World.drewN_drewN _ _ _) (congrArg (World.drewN _) (Nat.add_assoc _ _ _))⟩)) | (go_at_call 41; (with_reducible refine (armadaref07_order.calls t317 t318 t319 _ A8.out).mono ?_); rintro e w' ⟨rfl, ⟨nd, rfl⟩⟩; (try first | exact ⟨rfl, _, World.drewN_drewN _ _ _⟩ | exact ⟨rfl, _, Eq.trans (World.drewN_drewN _ _ _) (congrArg (World.drewN _) (Nat.add_assoc _ _ _))⟩))); try go_wp2_with (first | (go_at_call 56; (with_reducible refine (armadaref07_one.calls (a0.toList.isEmpty) t317 _ (beq_nil a0.toList ▸ A6.out)).mono ?_); rintro e w' ⟨rfl, ⟨nd, rfl⟩⟩; (try first | exact ⟨rfl, _, World.drewN_drewN _ _ _⟩ | exact ⟨rfl, _, Eq.trans (World.drewN_drewN _ _ _) (congrArg (World.drewN _) (Nat.add_assoc _ _ _))⟩)) | (go_at_call 56; (with_reducible refine (armadaref07_one.calls (a1.toList.isEmpty) t318 _ (beq_nil a1.toList ▸ A7.out)).mono ?_); rintro e w' ⟨rfl, ⟨nd, rfl⟩⟩; (try first | exact ⟨rfl, _, World.drewN_drewN _ _ _⟩ | exact ⟨rfl, _, Eq.trans (World.drewN_drewN _ _ _) (congrArg (World.drewN _) (Nat.add_assoc _ _ _))⟩)) | (go_at_call 41; (with_reducible refine (armadaref07_order.calls t317 t318 t319 _ A8.out).mono ?_); rintro e w' ⟨rfl, ⟨nd, rfl⟩⟩; (try first | exact ⟨rfl, _, World.drewN_drewN _ _ _⟩ | exact ⟨rfl, _, Eq.trans (World.drewN_drewN _ _ _) (congrArg (World.drewN _) (Nat.add_assoc _ _ _))⟩))))
    go_ret
    exact ⟨by first | rfl | (simp [errW_none, errW_some] <;> rfl) | (simp [*, errW_none, errW_some] <;> rfl), by repeat (first | (with_reducible first | exact HB.out | apply yA_ | apply yN_ | apply yD_) | exact HB.out)⟩
   ·replace c5 := Bool.eq_false_iff.mpr c5
    subst c5
    have H1 : ((armadaref05_Split.f kj2 a0 46).bind fun t320 => ((armadaref05_Split.f kj2 a1 46).bind fun t323 => (armadaref07_pre.l0 kj2 t320 t323 0))) = some r := by rw [if_neg (show ¬ (false = true) by decide)] at H; exact H
    clear H
    have H := H1
    clear H1
    replace H := Option.bind_eq_some_iff.mp H
    obtain ⟨t320, A90, H⟩ := H
    replace H : ((armadaref05_Split.f kj2 a1 46).bind fun t323 => (armadaref07_pre.l0 kj2 t320 t323 0)) = some r := H
    have A9 := Aside0.mk A90
    clear A90
    replace H := Option.bind_eq_some_iff.mp H
    obtain ⟨t323, A100, H⟩ := H
    replace H : (armadaref07_pre.l0 kj2 t320 t323 0) = some r := H
    have A10 := Aside0.mk A100
    clear A100
    have H' := Aside0.mk H
    clear H
    go_wp2_with (first | (go_at_call 28; (with_reducible refine (armadaref05_Split.calls kj2 a0 46 t320 _ A9.out).mono ?_); rintro e w11 ⟨v321, rfl, ho0, hb⟩; have n0_ := Aside0.mk (Kd.R_lower ho0 (below_size (by repeat (first | (with_reducible first | exact HB.out | apply yA_ | apply yN_ | apply yD_) | exact HB.out)))); have n1_ := Aside0.mk (below_step (by repeat (first | (with_reducible first | exact HB.out | apply yA_ | apply yN_ | apply yD_) | exact HB.out)) hb); clear HB; have HO322 := n0_; have HB := n1_; clear n0_ n1_; (try clear hb); (try clear hb2); (try clear hk); (try clear hi); (try clear ho0)) | (go_at_call 28; (with_reducible refine (armadaref05_Split.calls kj2 a1 46 t323 _ A10.out).mono ?_); rintro e w12 ⟨v324, rfl, ho0, hb⟩; have n0_ := Aside0.mk (Kd.R_elder' (by (with_reducible repeat (first | apply Kd.R_alloc | apply Kd.R_drewN | apply Kd.R_drew)); exact HO322.out) (Kd.R_base ho0) hb); have n1_ := Aside0.mk (Kd.R_lower (Kd.R_new' ho0 (Kd.R_lt (by (with_reducible repeat (first | apply Kd.R_alloc | apply Kd.R_drewN | apply Kd.R_drew)); exact HO322.out))) (below_size (by repeat (first | (with_reducible first | exact HB.out | apply yA_ | apply yN_ | apply yD_) | exact HB.out)))); have n2_ := Aside0.mk (below_step (by repeat (first | (with_reducible first | exact HB.out | apply yA_ | apply yN_ | apply yD_) | exact HB.out)) hb); clear HO322; clear HB; have HO322 := n0_; have HO325 := n1_; have HB := n2_; clear n0_ n1_ n2_; (try clear hb); (try clear hb2); (try clear hk); (try clear hi); (try clear ho0)))
    repeat (go_quiet (first | (go_at_call 28; (with_reducible refine (armadaref05_Split.calls kj2 a0 46 t320 _ A9.out).mono ?_); rintro e w11 ⟨v321, rfl, ho0, hb⟩; have n0_ := Aside0.mk (Kd.R_lower ho0 (below_size (by repeat (first | (with_reducible first | exact HB.out | apply yA_ | apply yN_ | apply yD_) | exact HB.out)))); have n1_ := Aside0.mk (below_step (by repeat (first | (with_reducible first | exact HB.out | apply yA_ | apply yN_ | apply yD_) | exact HB.out)) hb); clear HB; have HO322 := n0_; have HB := n1_; clear n0_ n1_; (try clear hb); (try clear hb2); (try clear hk); (try clear hi); (try clear ho0)) | (go_at_call 28; (with_reducible refine (armadaref05_Split.calls kj2 a1 46 t323 _ A10.out).mono ?_); rintro e w12 ⟨v324, rfl, ho0, hb⟩; have n0_ := Aside0.mk (Kd.R_elder' (by (with_reducible repeat (first | apply Kd.R_alloc | apply Kd.R_drewN | apply Kd.R_drew)); exact HO322.out) (Kd.R_base ho0) hb); have n1_ := Aside0.mk (Kd.R_lower (Kd.R_new' ho0 (Kd.R_lt (by (with_reducible repeat (first | apply Kd.R_alloc | apply Kd.R_drewN | apply Kd.R_drew)); exact HO322.out))) (below_size (by repeat (first | (with_reducible first | exact HB.out | apply yA_ | apply yN_ | apply yD_) | exact HB.out)))); have n2_ := Aside0.mk (below_step (by repeat (first | (with_reducible first | exact HB.out | apply yA_ | apply yN_ | apply yD_) | exact HB.out)) hb); clear HO322; clear HB; have HO322 := n0_; have HO325 := n1_; have HB := n2_; clear n0_ n1_ n2_; (try clear hb); (try clear hb2); (try clear hk); (try clear hi); (try clear ho0))); try go_wp2_with (first | (go_at_call 28; (with_reducible refine (armadaref05_Split.calls kj2 a0 46 t320 _ A9.out).mono ?_); rintro e w11 ⟨v321, rfl, ho0, hb⟩; have n0_ := Aside0.mk (Kd.R_lower ho0 (below_size (by repeat (first | (with_reducible first | exact HB.out | apply yA_ | apply yN_ | apply yD_) | exact HB.out)))); have n1_ := Aside0.mk (below_step (by repeat (first | (with_reducible first | exact HB.out | apply yA_ | apply yN_ | apply yD_) | exact HB.out)) hb); clear HB; have HO322 := n0_; have HB := n1_; clear n0_ n1_; (try clear hb); (try clear hb2); (try clear hk); (try clear hi); (try clear ho0)) | (go_at_call 28; (with_reducible refine (armadaref05_Split.calls kj2 a1 46 t323 _ A10.out).mono ?_); rintro e w12 ⟨v324, rfl, ho0, hb⟩; have n0_ := Aside0.mk (Kd.R_elder' (by (with_reducible repeat (first | apply Kd.R_alloc | apply Kd.R_drewN | apply Kd.R_drew)); exact HO322.out) (Kd.R_base ho0) hb); have n1_ := Aside0.mk (Kd.R_lower (Kd.R_new' ho0 (Kd.R_lt (by (with_reducible repeat (first | apply Kd.R_alloc | apply Kd.R_drewN | apply Kd.R_drew)); exact HO322.out))) (below_size (by repeat (first | (with_reducible first | exact HB.out | apply yA_ | apply yN_ | apply yD_) | exact HB.out)))); have n2_ := Aside0.mk (below_step (by repeat (first | (with_reducible first | exact HB.out | apply yA_ | apply yN_ | apply yD_) | exact HB.out)) hb); clear HO322; clear HB; have HO322 := n0_; have HO325 := n1_; have HB := n2_; clear n0_ n1_ n2_; (try clear hb); (try clear hb2); (try clear hk); (try clear hi); (try clear ho0))))
    go_loopg [7] kj2 (fun kq v7 w' => ∃ (x7_2 : Int), v7 = .int .i64 x7_2 ∧ Aside0 (armadaref07_pre.l0 kq t320 t323 x7_2 = some r) ∧ Aside0 (kq ≤ kj2) ∧ Aside0 (Kd.R Kd.string 9 w' w.heap.size (fun k_ => some k_ ≠ (v324 : Value).ownBlock) v321 t320) ∧ Aside0 (Kd.R Kd.string 9 w' w.heap.size (fun k_ => some k_ ≠ (v321 : Value).ownBlock) v324 t323) ∧ Aside0 (Below w.heap.size w w'))
    case atStart => exact ⟨(0), (by first | rfl | (simp; done) | (simp [*]; done)), H', ⟨Nat.le_refl _⟩, ⟨by (with_reducible repeat (first | apply Kd.R_alloc | apply Kd.R_drewN | apply Kd.R_drew)); exact Kd.R_mono HO322.out (fun _ hk => hk.2)⟩, ⟨by (with_reducible repeat (first | apply Kd.R_alloc | apply Kd.R_drewN | apply Kd.R_drew)); exact Kd.R_mono HO325.out (fun _ hk => hk.2)⟩, ⟨by repeat (first | (with_reducible first | exact HB.out | apply yA_ | apply yN_ | apply yD_) | exact HB.out)⟩⟩
    case round =>
     clear H'
     (try clear p2); (try clear c4); (try clear c4b0); (try clear c4b1); (try clear c5); (try clear p2)
     obtain ⟨x7_2, rfl, HA, HK2, HO_5, HO_6, HB⟩ := hrel
     cases gk with
     | zero => exact absurd HA.out (by simp [armadaref07_pre.l0])
     | succ k2 =>
      have H := HA.out
      clear HA
      simp only [armadaref07_pre.l0] at H
      have HC13 := Aside0.mk H
      clear H
      go_upto_region 6 with (fail)
      repeat (go_quiet (fail); go_upto_region 6 with (fail))
      go_cut [34] (fun v34 wc => ∃ (kq : Nat) (x34_12 : Bool), v34 = .bool x34_12 ∧ Aside0 (armadaref07_pre.j2 kq t320 t323 x7_2 x34_12 = some r) ∧ Aside0 (kq ≤ k2) ∧ Aside0 (Kd.R Kd.string 9 wc w.heap.size (fun k_ => some k_ ≠ (v324 : Value).ownBlock) v321 t320) ∧ Aside0 (Kd.R Kd.string 9 wc w.heap.size (fun k_ => some k_ ≠ (v321 : Value).ownBlock) v324 t323) ∧ Aside0 (Below w.heap.size w wc))
      case first =>
       have H := HC13.out
       clear HC13
       by_cases c14 : x7_2 < (t320.length : Int)
       ·rw [if_pos c14] at H
        have c14b0 : decide (x7_2 < (t320.length : Int)) = true := decide_eq_true c14
        clear c14
        (first | rw [c14b0] | (simp only [i64_w, i32_w]; rw [c14b0]) | skip)
        have H' := Aside0.mk H
        clear H
        obtain ⟨Ao15, co15, eo15⟩ := Kd.R_slice HO_5.out
        subst eo15
        obtain ⟨Ao16, co16, eo16⟩ := Kd.R_slice HO_6.out
        subst eo16
        go_wp2
        repeat (go_quiet (fail); try go_wp2)
        go_meet
        case rel => exact ⟨_, (decide (x7_2 < (t323.length : Int))), (by first | rfl | (simp; done) | (simp [*]; done)), H', ⟨by have := HJ2.out; have := HK2.out; first | omega | exact Nat.le_refl _⟩, ⟨by (with_reducible repeat (first | apply Kd.R_alloc | apply Kd.R_drewN | apply Kd.R_drew)); exact HO_5.out⟩, ⟨by (with_reducible repeat (first | apply Kd.R_alloc | apply Kd.R_drewN | apply Kd.R_drew)); exact HO_6.out⟩, ⟨by repeat (first | (with_reducible first | exact HB.out | apply yA_ | apply yN_ | apply yD_) | exact HB.out)⟩⟩
       ·rw [if_neg c14] at H
        have c14b0 : decide (x7_2 < (t320.length : Int)) = false := decide_eq_false c14
        clear c14
        (first | rw [c14b0] | (simp only [i64_w, i32_w]; rw [c14b0]) | skip)
        have H' := Aside0.mk H
        clear H
        obtain ⟨Ao17, co17, eo17⟩ := Kd.R_slice HO_5.out
        subst eo17
        go_wp2
        repeat (go_quiet (fail); try go_wp2)
        go_meet
        case rel => exact ⟨_, (false), (by first | rfl | (simp; done) | (simp [*]; done)), H', ⟨by have := HJ2.out; have := HK2.out; first | omega | exact Nat.le_refl _⟩, ⟨by (with_reducible repeat (first | apply Kd.R_alloc | apply Kd.R_drewN | apply Kd.R_drew)); exact HO_5.out⟩, ⟨by (with_reducible repeat (first | apply Kd.R_alloc | apply Kd.R_drewN | apply Kd.R_drew)); exact HO_6.out⟩, ⟨by repeat (first | (with_reducible first | exact HB.out | apply yA_ | apply yN_ | apply yD_) | exact HB.out)⟩⟩
      case rest =>
       clear HC13
       (try clear c1); (try clear p2); (try clear c4); (try clear c4b0); (try clear c4b1); (try clear c5); (try clear c14); (try clear c14b0); (try clear p2)
       obtain ⟨kq, x34_12, rfl, HA, HJ12, HO_5, HO_6, HB⟩ := hcut
       cases kq with
       | zero => exact absurd HA.out (by simp [armadaref07_pre.j2])
       | succ kj12 =>
        have H := HA.out
        clear HA
        simp only [armadaref07_pre.j2] at H
        by_cases c18 : x34_12 = true
        ·subst c18
         have H1 : (if 0 ≤ x7_2 then (if x7_2 < (t320.length : Int) then (if x7_2 < (t323.length : Int) then ((armadaref07_words.f kj12 (rdOf ByteArray.empty t320 x7_2) (rdOf ByteArray.empty t323 x7_2)).bind fun t329 => (if t329 = 0 then (armadaref07_pre.l0 kj12 t320 t323 (wrap64 (x7_2 + 1))) else (some t329))) else (none)) else (none)) else (none)) = some r := by rw [if_pos rfl] at H; exact H
         clear H
         have H := H1
         clear H1
         by_cases c19 : 0 ≤ x7_2
         ·rw [if_pos c19] at H
          have c19b0 : decide (0 ≤ x7_2) = true := decide_eq_true c19
          clear c19
          by_cases c20 : x7_2 < (t320.length : Int)
          ·rw [if_pos c20] at H
           have c20b0 : decide (x7_2 < (t320.length : Int)) = true := decide_eq_true c20
           clear c20
           by_cases c21 : x7_2 < (t323.length : Int)
           ·rw [if_pos c21] at H
            have c21b0 : decide (x7_2 < (t323.length : Int)) = true := decide_eq_true c21
            clear c21
            replace H := Option.bind_eq_some_iff.mp H
            obtain ⟨t329, A220, H⟩ := H
            replace H : (if t329 = 0 then (armadaref07_pre.l0 kj12 t320 t323 (wrap64 (x7_2 + 1))) else (some t329)) = some r := H
            have A22 := Aside0.mk A220
            clear A220
            by_cases c23 : t329 = 0
            ·rw [if_pos c23] at H
             have c23b0 : (t329 == 0) = true := beq_iff_eq.mpr c23
             have c23b1 : (t329 != 0) = false := bne_eq_false_iff_eq.mpr c23
             clear c23
             have H' := Aside0.mk H
             clear H
             obtain ⟨Ao24, co24, eo24⟩ := Kd.R_slice HO_5.out
             subst eo24
             have p327 : 0 ≤ (x7_2 : Int) := of_decide_eq_true (by first | (with_reducible assumption) | assumption)
             have q327 : x7_2 < (t320.length : Int) := of_decide_eq_true (by first | (with_reducible assumption) | assumption)
             obtain ⟨ad327, e327, hx327_0⟩ := Kd.at_string (Kd.R_reads' HO_5.out).2.2 x7_2 p327 q327
             cases e327
             replace p327 := eq_true p327
             replace q327 := eq_true q327
             obtain ⟨Ao25, co25, eo25⟩ := Kd.R_slice HO_6.out
             subst eo25
             have p328 : 0 ≤ (x7_2 : Int) := of_decide_eq_true (by first | (with_reducible assumption) | assumption)
             have q328 : x7_2 < (t323.length : Int) := of_decide_eq_true (by first | (with_reducible assumption) | assumption)
             obtain ⟨ad328, e328, hx328_0⟩ := Kd.at_string (Kd.R_reads' HO_6.out).2.2 x7_2 p328 q328
             cases e328
             replace p328 := eq_true p328
             replace q328 := eq_true q328
             go_wp2_with (first | (go_at_call 57; (with_reducible refine (armadaref07_words.calls kj12 (rdOf ByteArray.empty t320 x7_2) (rdOf ByteArray.empty t323 x7_2) t329 _ A22.out).mono ?_); rintro e w' ⟨rfl, ⟨nd, rfl⟩⟩; (try first | exact ⟨rfl, _, World.drewN_drewN _ _ _⟩ | exact ⟨rfl, _, Eq.trans (World.drewN_drewN _ _ _) (congrArg (World.drewN _) (Nat.add_assoc _ _ _))⟩)))
             repeat (go_quiet (first | (go_at_call 57; (with_reducible refine (armadaref07_words.calls kj12 (rdOf ByteArray.empty t320 x7_2) (rdOf ByteArray.empty t323 x7_2) t329 _ A22.out).mono ?_); rintro e w' ⟨rfl, ⟨nd, rfl⟩⟩; (try first | exact ⟨rfl, _, World.drewN_drewN _ _ _⟩ | exact ⟨rfl, _, Eq.trans (World.drewN_drewN _ _ _) (congrArg (World.drewN _) (Nat.add_assoc _ _ _))⟩))); try go_wp2_with (first | (go_at_call 57; (with_reducible refine (armadaref07_words.calls kj12 (rdOf ByteArray.empty t320 x7_2) (rdOf ByteArray.empty t323 x7_2) t329 _ A22.out).mono ?_); rintro e w' ⟨rfl, ⟨nd, rfl⟩⟩; (try first | exact ⟨rfl, _, World.drewN_drewN _ _ _⟩ | exact ⟨rfl, _, Eq.trans (World.drewN_drewN _ _ _) (congrArg (World.drewN _) (Nat.add_assoc _ _ _))⟩))))
             go_roundg kj12
             case measure => have := HJ2.out; have := HK2.out; have := HJ12.out; omega
             case rel => exact ⟨(wrap64 (x7_2 + 1)), (by first | rfl | (simp; done) | (simp [*]; done)), H', ⟨by have := HJ2.out; have := HK2.out; have := HJ12.out; omega⟩, ⟨by (with_reducible repeat (first | apply Kd.R_alloc | apply Kd.R_drewN | apply Kd.R_drew)); exact HO_5.out⟩, ⟨by (with_reducible repeat (first | apply Kd.R_alloc | apply Kd.R_drewN | apply Kd.R_drew)); exact HO_6.out⟩, ⟨by repeat (first | (with_reducible first | exact HB.out | apply yA_ | apply yN_ | apply yD_) | exact HB.out)⟩⟩
            ·rw [if_neg c23] at H
             have c23b0 : (t329 == 0) = false := beq_eq_false_iff_ne.mpr c23
             have c23b1 : (t329 != 0) = true := bne_iff_ne.mpr c23
             obtain rfl := Option.some.inj H
             obtain ⟨Ao26, co26, eo26⟩ := Kd.R_slice HO_5.out
             subst eo26
             have p327 : 0 ≤ (x7_2 : Int) := of_decide_eq_true (by first | (with_reducible assumption) | assumption)
             have q327 : x7_2 < (t320.length : Int) := of_decide_eq_true (by first | (with_reducible assumption) | assumption)
             obtain ⟨ad327, e327, hx327_0⟩ := Kd.at_string (Kd.R_reads' HO_5.out).2.2 x7_2 p327 q327
             cases e327
             replace p327 := eq_true p327
             replace q327 := eq_true q327
             obtain ⟨Ao27, co27, eo27⟩ := Kd.R_slice HO_6.out
             subst eo27
             have p328 : 0 ≤ (x7_2 : Int) := of_decide_eq_true (by first | (with_reducible assumption) | assumption)
             have q328 : x7_2 < (t323.length : Int) := of_decide_eq_true (by first | (with_reducible assumption) | assumption)
             obtain ⟨ad328, e328, hx328_0⟩ := Kd.at_string (Kd.R_reads' HO_6.out).2.2 x7_2 p328 q328
             cases e328
             replace p328 := eq_true p328
             replace q328 := eq_true q328
             go_wp2_with (first | (go_at_call 57; (with_reducible refine (armadaref07_words.calls kj12 (rdOf ByteArray.empty t320 x7_2) (rdOf ByteArray.empty t323 x7_2) t329 _ A22.out).mono ?_); rintro e w' ⟨rfl, ⟨nd, rfl⟩⟩; (try first | exact ⟨rfl, _, World.drewN_drewN _ _ _⟩ | exact ⟨rfl, _, Eq.trans (World.drewN_drewN _ _ _) (congrArg (World.drewN _) (Nat.add_assoc _ _ _))⟩); have p330 : 0 ≤ (x7_2 : Int) := of_decide_eq_true (by first | (with_reducible assumption) | assumption); have q330 : x7_2 < (t320.length : Int) := of_decide_eq_true (by first | (with_reducible assumption) | assumption); obtain ⟨ad330, e330, hx330_0⟩ := Kd.at_string (Kd.R_reads' HO_5.out).2.2 x7_2 p330 q330; obtain rfl : ad327 = ad330 := (by injection e330); replace p330 := eq_true p330; replace q330 := eq_true q330; have p331 : 0 ≤ (x7_2 : Int) := of_decide_eq_true (by first | (with_reducible assumption) | assumption); have q331 : x7_2 < (t323.length : Int) := of_decide_eq_true (by first | (with_reducible assumption) | assumption); obtain ⟨ad331, e331, hx331_0⟩ := Kd.at_string (Kd.R_reads' HO_6.out).2.2 x7_2 p331 q331; obtain rfl : ad328 = ad331 := (by injection e331); replace p331 := eq_true p331; replace q331 := eq_true q331))
             repeat (go_quiet (first | (go_at_call 57; (with_reducible refine (armadaref07_words.calls kj12 (rdOf ByteArray.empty t320 x7_2) (rdOf ByteArray.empty t323 x7_2) t329 _ A22.out).mono ?_); rintro e w' ⟨rfl, ⟨nd, rfl⟩⟩; (try first | exact ⟨rfl, _, World.drewN_drewN _ _ _⟩ | exact ⟨rfl, _, Eq.trans (World.drewN_drewN _ _ _) (congrArg (World.drewN _) (Nat.add_assoc _ _ _))⟩); have p330 : 0 ≤ (x7_2 : Int) := of_decide_eq_true (by first | (with_reducible assumption) | assumption); have q330 : x7_2 < (t320.length : Int) := of_decide_eq_true (by first | (with_reducible assumption) | assumption); obtain ⟨ad330, e330, hx330_0⟩ := Kd.at_string (Kd.R_reads' HO_5.out).2.2 x7_2 p330 q330; obtain rfl : ad327 = ad330 := (by injection e330); replace p330 := eq_true p330; replace q330 := eq_true q330; have p331 : 0 ≤ (x7_2 : Int) := of_decide_eq_true (by first | (with_reducible assumption) | assumption); have q331 : x7_2 < (t323.length : Int) := of_decide_eq_true (by first | (with_reducible assumption) | assumption); obtain ⟨ad331, e331, hx331_0⟩ := Kd.at_string (Kd.R_reads' HO_6.out).2.2 x7_2 p331 q331; obtain rfl : ad328 = ad331 := (by injection e331); replace p331 := eq_true p331; replace q331 := eq_true q331)); try go_wp2_with (first | (go_at_call 57; (with_reducible refine (armadaref07_words.calls kj12 (rdOf ByteArray.empty t320 x7_2) (rdOf ByteArray.empty t323 x7_2) t329 _ A22.out).mono ?_); rintro e w' ⟨rfl, ⟨nd, rfl⟩⟩; (try first | exact ⟨rfl, _, World.drewN_drewN _ _ _⟩ | exact ⟨rfl, _, Eq.trans (World.drewN_drewN _ _ _) (congrArg (World.drewN _) (Nat.add_assoc _ _ _))⟩); have p330 : 0 ≤ (x7_2 : Int) := of_decide_eq_true (by first | (with_reducible assumption) | assumption); have q330 : x7_2 < (t320.length : Int) := of_decide_eq_true (by first | (with_reducible assumption) | assumption); obtain ⟨ad330, e330, hx330_0⟩ := Kd.at_string (Kd.R_reads' HO_5.out).2.2 x7_2 p330 q330; obtain rfl : ad327 = ad330 := (by injection e330); replace p330 := eq_true p330; replace q330 := eq_true q330; have p331 : 0 ≤ (x7_2 : Int) := of_decide_eq_true (by first | (with_reducible assumption) | assumption); have q331 : x7_2 < (t323.length : Int) := of_decide_eq_true (by first | (with_reducible assumption) | assumption); obtain ⟨ad331, e331, hx331_0⟩ := Kd.at_string (Kd.R_reads' HO_6.out).2.2 x7_2 p331 q331; obtain rfl : ad328 = ad331 := (by injection e331); replace p331 := eq_true p331; replace q331 := eq_true q331)))
             go_ret
             exact ⟨by first | rfl | (simp [errW_none, errW_some] <;> rfl) | (simp [*, errW_none, errW_some] <;> rfl), by repeat (first | (with_reducible first | exact HB.out | apply yA_ | apply yN_ | apply yD_) | exact HB.out)⟩
           ·rw [if_neg c21] at H
            exact absurd H (by simp)
          ·rw [if_neg c20] at H
           exact absurd H (by simp)
         ·rw [if_neg c19] at H
          exact absurd H (by simp)
        ·replace c18 := Bool.eq_false_iff.mpr c18
         subst c18
         have H1 : ((armadaref07_order.f (t320.length : Int) (t323.length : Int)).bind fun t326 => (some t326)) = some r := by rw [if_neg (show ¬ (false = true) by decide)] at H; exact H
         clear H
         have H := H1
         clear H1
         replace H := Option.bind_eq_some_iff.mp H
         obtain ⟨t326, A280, H⟩ := H
         replace H : (some t326) = some r := H
         have A28 := Aside0.mk A280
         clear A280
         obtain rfl := Option.some.inj H
         obtain ⟨Ao29, co29, eo29⟩ := Kd.R_slice HO_5.out
         subst eo29
         obtain ⟨Ao30, co30, eo30⟩ := Kd.R_slice HO_6.out
         subst eo30
         go_wp2_with (first | (go_at_call 41; (with_reducible refine (armadaref07_order.calls (t320.length : Int) (t323.length : Int) t326 _ A28.out).mono ?_); rintro e w' ⟨rfl, ⟨nd, rfl⟩⟩; (try first | exact ⟨rfl, _, World.drewN_drewN _ _ _⟩ | exact ⟨rfl, _, Eq.trans (World.drewN_drewN _ _ _) (congrArg (World.drewN _) (Nat.add_assoc _ _ _))⟩)))
         repeat (go_quiet (first | (go_at_call 41; (with_reducible refine (armadaref07_order.calls (t320.length : Int) (t323.length : Int) t326 _ A28.out).mono ?_); rintro e w' ⟨rfl, ⟨nd, rfl⟩⟩; (try first | exact ⟨rfl, _, World.drewN_drewN _ _ _⟩ | exact ⟨rfl, _, Eq.trans (World.drewN_drewN _ _ _) (congrArg (World.drewN _) (Nat.add_assoc _ _ _))⟩))); try go_wp2_with (first | (go_at_call 41; (with_reducible refine (armadaref07_order.calls (t320.length : Int) (t323.length : Int) t326 _ A28.out).mono ?_); rintro e w' ⟨rfl, ⟨nd, rfl⟩⟩; (try first | exact ⟨rfl, _, World.drewN_drewN _ _ _⟩ | exact ⟨rfl, _, Eq.trans (World.drewN_drewN _ _ _) (congrArg (World.drewN _) (Nat.add_assoc _ _ _))⟩))))
         go_ret
         exact ⟨by first | rfl | (simp [errW_none, errW_some] <;> rfl) | (simp [*, errW_none, errW_some] <;> rfl), by repeat (first | (with_reducible first | exact HB.out | apply yA_ | apply yN_ | apply yD_) | exact HB.out)⟩
def armadaref07_Compare.j0 : Nat → Bool → Int → Int → Int → ByteArray → ByteArray → Int → Int → Int → ByteArray → ByteArray → Option (Int)
 | 0, _, _, _, _, _, _, _, _, _, _, _ => none
 | k + 1, x12, x333000, x333001, x333002, x333003, x333004, x334000, x334001, x334002, x334003, x334004 => if x12 = true then (some 0) else (if x333000 = x334000 then (if x333001 = x334001 then (if x333002 = x334002 then ((armadaref07_pre.f k x333003 x334003).bind fun t338 => (some t338)) else ((armadaref07_order.f x333002 x334002).bind fun t339 => (some t339))) else ((armadaref07_order.f x333001 x334001).bind fun t337 => (some t337))) else ((armadaref07_order.f x333000 x334000).bind fun t336 => (some t336)))
def armadaref07_Compare.f (k : Nat) (a0_0 : Int) (a0_1 : Int) (a0_2 : Int) (a0_3 : ByteArray) (a0_4 : ByteArray) (a1_0 : Int) (a1_1 : Int) (a1_2 : Int) (a1_3 : ByteArray) (a1_4 : ByteArray) : Option (Int) := (armadaref07_Check.f k a0_0 a0_1 a0_2 a0_3 a0_4).bind fun t334 => (if t334 = true then ((armadaref07_Check.f k a1_0 a1_1 a1_2 a1_3 a1_4).bind fun t335 => (armadaref07_Compare.j0 k (!t335) a0_0 a0_1 a0_2 a0_3 a0_4 a1_0 a1_1 a1_2 a1_3 a1_4)) else (armadaref07_Compare.j0 k true a0_0 a0_1 a0_2 a0_3 a0_4 a1_0 a1_1 a1_2 a1_3 a1_4))
theorem armadaref07_Compare.mono_l : ∀ k, (∀ y0 y1 y2 y3 y4 y5 y6 y7 y8 y9 y10, LeO (armadaref07_Compare.j0 k y0 y1 y2 y3 y4 y5 y6 y7 y8 y9 y10) (armadaref07_Compare.j0 (k + 1) y0 y1 y2 y3 y4 y5 y6 y7 y8 y9 y10))
 | 0 => fun _ _ _ _ _ _ _ _ _ _ _ r h => by simp [armadaref07_Compare.j0] at h
 | k + 1 => by
  have ih0 := armadaref07_Compare.mono_l k
  ·intro y0 y1 y2 y3 y4 y5 y6 y7 y8 y9 y10
   unfold armadaref07_Compare.j0
   repeat' first
   | (with_reducible exact ih0 _ _ _ _ _ _ _ _ _ _ _)
   | (with_reducible exact armadaref07_Check.mono _ _ _ _ _ _)
   | (with_reducible exact armadaref07_pre.mono _ _ _)
   | (with_reducible exact LeO.refl _)
   | (with_reducible exact LeO.none _)
   | (with_reducible refine LeO.ite ?_ ?_)
   | (with_reducible refine LeO.bind ?_ (fun _ => ?_))
   | exact ih0 _ _ _ _ _ _ _ _ _ _ _
   | exact armadaref07_Check.mono _ _ _ _ _ _
   | exact armadaref07_pre.mono _ _ _
   | exact LeO.none _
   | refine LeO.ite ?_ ?_
   | refine LeO.bind ?_ (fun _ => ?_)
theorem armadaref07_Compare.mono : ∀ a0 a1 a2 a3 a4 a5 a6 a7 a8 a9 k, LeO (armadaref07_Compare.f k a0 a1 a2 a3 a4 a5 a6 a7 a8 a9) (armadaref07_Compare.f (k + 1) a0 a1 a2 a3 a4 a5 a6 a7 a8 a9) := by
 intro a0 a1 a2 a3 a4 a5 a6 a7 a8 a9 k
 have ih0 := armadaref07_Compare.mono_l k
 unfold armadaref07_Compare.f
 repeat' first
   | (with_reducible exact ih0 _ _ _ _ _ _ _ _ _ _ _)
   | (with_reducible exact armadaref07_Check.mono _ _ _ _ _ _)
   | (with_reducible exact armadaref07_pre.mono _ _ _)
   | (with_reducible exact LeO.refl _)
   | (with_reducible exact LeO.none _)
   | (with_reducible refine LeO.ite ?_ ?_)
   | (with_reducible refine LeO.bind ?_ (fun _ => ?_))
   | exact ih0 _ _ _ _ _ _ _ _ _ _ _
   | exact armadaref07_Check.mono _ _ _ _ _ _
   | exact armadaref07_pre.mono _ _ _
   | exact LeO.none _
   | refine LeO.ite ?_ ?_
   | refine LeO.bind ?_ (fun _ => ?_)
set_option maxHeartbeats 8000000 in
set_option maxRecDepth 100000 in
theorem armadaref07_Compare.calls (k : Nat) (a0_0 : Int) (a0_1 : Int) (a0_2 : Int) (a0_3 : ByteArray) (a0_4 : ByteArray) (a1_0 : Int) (a1_1 : Int) (a1_2 : Int) (a1_3 : ByteArray) (a1_4 : ByteArray) (r : Int) (w : World) (h : armadaref07_Compare.f k a0_0 a0_1 a0_2 a0_3 a0_4 a1_0 a1_1 a1_2 a1_3 a1_4 = some r) :
  Calls Tryd.prog 20 #[.agg #[.int .i64 a0_0, .int .i64 a0_1, .int .i64 a0_2, .string a0_3, .string a0_4], .agg #[.int .i64 a1_0, .int .i64 a1_1, .int .i64 a1_2, .string a1_3, .string a1_4]] w fun e w' => e = .returned (.int .i64 r) ∧ Below w.heap.size w w' := by
 have hu23 := Tryd.underlying23
 have HB := Aside0.mk (Below.refl w.heap.size w)
 have H : ((armadaref07_Check.f k a0_0 a0_1 a0_2 a0_3 a0_4).bind fun t334 => (if t334 = true then ((armadaref07_Check.f k a1_0 a1_1 a1_2 a1_3 a1_4).bind fun t335 => (armadaref07_Compare.j0 k (!t335) a0_0 a0_1 a0_2 a0_3 a0_4 a1_0 a1_1 a1_2 a1_3 a1_4)) else (armadaref07_Compare.j0 k true a0_0 a0_1 a0_2 a0_3 a0_4 a1_0 a1_1 a1_2 a1_3 a1_4))) = some r := h
 clear h
 have HC3 := Aside0.mk H
 clear H
 go_enter Tryd.func20, Tryd.ntmps20
 go_upto_region 1 with (first | ((with_reducible refine gate_dst (N := 2) rfl ?_); refine box_event ?hg (N := 2) ?hd (cs := #[.int .i64 a0_0, .int .i64 a0_1, .int .i64 a0_2, .string a0_3, .string a0_4]) (t := 23) ?hr ?_; (case hd => rfl); (case hg => rfl); (case hr => first | (go_simp; done) | (go_simp; rfl)); intro gb332 hg w4 hbox hb; have n0_ := Aside0.mk (below_step (by repeat (first | (with_reducible first | exact HB.out | apply yA_ | apply yN_ | apply yD_) | exact HB.out)) hb); have n1_ := Aside0.mk (hbox); have n2_ := Aside0.mk ((by rw [hg]; exact (below_size (by repeat (first | (with_reducible first | exact HB.out | apply yA_ | apply yN_ | apply yD_) | exact HB.out))) : w.heap.size ≤ gb332)); have n3_ := Aside0.mk ((by rw [hg]; exact (below_size (by repeat (first | (with_reducible first | exact HB.out | apply yA_ | apply yN_ | apply yD_) | exact HB.out))) : w.heap.size ≤ gb332)); clear HB; have HB := n0_; have BK332 := n1_; have GW332 := n2_; have GE332 := n3_; clear n0_ n1_ n2_ n3_; clear hb hbox hg) | ((with_reducible refine gate_dst (N := 3) rfl ?_); refine box_event ?hg (N := 3) ?hd (cs := #[.int .i64 a1_0, .int .i64 a1_1, .int .i64 a1_2, .string a1_3, .string a1_4]) (t := 23) ?hr ?_; (case hd => rfl); (case hg => rfl); (case hr => first | (go_simp; done) | (go_simp; rfl)); intro gb333 hg w5 hbox hb; have n0_ := Aside0.mk (blk_below (g := gb332) (o := .cells #[.int .i64 a0_0, .int .i64 a0_1, .int .i64 a0_2, .string a0_3, .string a0_4] 23 (0, 0)) (by (with_reducible repeat (first | apply xN_ | apply xD_ | apply xA_)); exact BK332.out) hb); have n1_ := Aside0.mk (below_step (by repeat (first | (with_reducible first | exact HB.out | apply yA_ | apply yN_ | apply yD_ | refine yS_ ?_ GE332.out) | exact HB.out)) hb); have n2_ := Aside0.mk (hbox); have n3_ := Aside0.mk ((by rw [hg]; exact (below_size (by repeat (first | (with_reducible first | exact HB.out | apply yA_ | apply yN_ | apply yD_ | refine yS_ ?_ GE332.out) | exact HB.out))) : w.heap.size ≤ gb333)); have n4_ := Aside0.mk ((by rw [hg]; exact (below_size (by repeat (first | (with_reducible first | exact HB.out | apply yA_ | apply yN_ | apply yD_ | refine yS_ ?_ GE332.out) | exact HB.out))) : w.heap.size ≤ gb333)); have n5_ := Aside0.mk ((by rw [hg]; exact Nat.ne_of_lt (blk_lt (g := gb332) (o := .cells #[.int .i64 a0_0, .int .i64 a0_1, .int .i64 a0_2, .string a0_3, .string a0_4] 23 (0, 0)) (by (with_reducible repeat (first | apply xN_ | apply xD_ | apply xA_)); exact BK332.out)) : gb332 ≠ gb333)); have n6_ := Aside0.mk ((by rw [hg]; exact Nat.ne_of_gt (blk_lt (g := gb332) (o := .cells #[.int .i64 a0_0, .int .i64 a0_1, .int .i64 a0_2, .string a0_3, .string a0_4] 23 (0, 0)) (by (with_reducible repeat (first | apply xN_ | apply xD_ | apply xA_)); exact BK332.out)) : gb333 ≠ gb332)); clear BK332; clear HB; have BK332 := n0_; have HB := n1_; have BK333 := n2_; have GW333 := n3_; have GE333 := n4_; have NB332_333 := n5_; have NB333_332 := n6_; clear n0_ n1_ n2_ n3_ n4_ n5_ n6_; clear hb hbox hg))
 (try simp only [Act.put, List.setIfInBounds_toArray, List.set_cons_zero, List.set_cons_succ])
 go_cut [12] (fun v12 wc => ∃ (kq : Nat) (x12_2 : Bool), v12 = .bool x12_2 ∧ Aside0 (armadaref07_Compare.j0 kq x12_2 a0_0 a0_1 a0_2 a0_3 a0_4 a1_0 a1_1 a1_2 a1_3 a1_4 = some r) ∧ Aside0 (kq ≤ k) ∧ Aside0 (wc.heap[gb332]? = some (.cells #[.int .i64 a0_0, .int .i64 a0_1, .int .i64 a0_2, .string a0_3, .string a0_4] 23 (0, 0))) ∧ Aside0 (wc.heap[gb333]? = some (.cells #[.int .i64 a1_0, .int .i64 a1_1, .int .i64 a1_2, .string a1_3, .string a1_4] 23 (0, 0))) ∧ Aside0 (Below w.heap.size w wc))
 case first =>
  have H := HC3.out
  clear HC3
  replace H := Option.bind_eq_some_iff.mp H
  obtain ⟨t334, A60, H⟩ := H
  replace H : (if t334 = true then ((armadaref07_Check.f k a1_0 a1_1 a1_2 a1_3 a1_4).bind fun t335 => (armadaref07_Compare.j0 k (!t335) a0_0 a0_1 a0_2 a0_3 a0_4 a1_0 a1_1 a1_2 a1_3 a1_4)) else (armadaref07_Compare.j0 k true a0_0 a0_1 a0_2 a0_3 a0_4 a1_0 a1_1 a1_2 a1_3 a1_4)) = some r := H
  have A6 := Aside0.mk A60
  clear A60
  by_cases c7 : t334 = true
  ·subst c7
   have H1 : ((armadaref07_Check.f k a1_0 a1_1 a1_2 a1_3 a1_4).bind fun t335 => (armadaref07_Compare.j0 k (!t335) a0_0 a0_1 a0_2 a0_3 a0_4 a1_0 a1_1 a1_2 a1_3 a1_4)) = some r := by rw [if_pos rfl] at H; exact H
   clear H
   have H := H1
   clear H1
   replace H := Option.bind_eq_some_iff.mp H
   obtain ⟨t335, A80, H⟩ := H
   replace H : (armadaref07_Compare.j0 k (!t335) a0_0 a0_1 a0_2 a0_3 a0_4 a1_0 a1_1 a1_2 a1_3 a1_4) = some r := H
   have A8 := Aside0.mk A80
   clear A80
   have H' := Aside0.mk H
   clear H
   have hnb9 := NB332_333.out
   have hnc9 := NB333_332.out
   have hcz10_0 : w5.cell? ⟨gb332, 0, none⟩ = some (.int .i64 a0_0) := (xC_ BK332.out 0).trans rfl
   have hcz10_1 : w5.cell? ⟨gb332, 1, none⟩ = some (.int .i64 a0_1) := (xC_ BK332.out 1).trans rfl
   have hcz10_2 : w5.cell? ⟨gb332, 2, none⟩ = some (.int .i64 a0_2) := (xC_ BK332.out 2).trans rfl
   have hcz10_3 : w5.cell? ⟨gb332, 3, none⟩ = some (.string a0_3) := (xC_ BK332.out 3).trans rfl
   have hcz10_4 : w5.cell? ⟨gb332, 4, none⟩ = some (.string a0_4) := (xC_ BK332.out 4).trans rfl
   have hfz10_0 := xF_ BK332.out 0
   have hfz10_1 := xF_ BK332.out 1
   have hfz10_2 := xF_ BK332.out 2
   have hfz10_3 := xF_ BK332.out 3
   have hfz10_4 := xF_ BK332.out 4
   go_wp2_with (first | ((with_reducible refine gate_callee (f := 14) rfl ?_); refine goesL_ (some 6) rfl rfl Tryd.func14 (by kernel_rfl) rfl #[.agg #[.int .i64 a0_0, .int .i64 a0_1, .int .i64 a0_2, .string a0_3, .string a0_4]] rfl (by (try simp only [List.map_toArray, List.map_cons, List.map_nil]); first | done | rfl) ?_; (with_reducible refine (armadaref07_Check.calls k a0_0 a0_1 a0_2 a0_3 a0_4 true _ A6.out).mono ?_); rintro e w11 ⟨rfl, hb⟩; refine ⟨_, rfl, ?_⟩; have n0_ := Aside0.mk (blk_below (g := gb332) (o := .cells #[.int .i64 a0_0, .int .i64 a0_1, .int .i64 a0_2, .string a0_3, .string a0_4] 23 (0, 0)) (by (with_reducible repeat (first | apply xN_ | apply xD_ | apply xA_)); exact BK332.out) hb); have n1_ := Aside0.mk (blk_below (g := gb333) (o := .cells #[.int .i64 a1_0, .int .i64 a1_1, .int .i64 a1_2, .string a1_3, .string a1_4] 23 (0, 0)) (by (with_reducible repeat (first | apply xN_ | apply xD_ | apply xA_)); exact BK333.out) hb); have n2_ := Aside0.mk (below_step (by repeat (first | (with_reducible first | exact HB.out | apply yA_ | apply yN_ | apply yD_ | refine yS_ ?_ GE332.out | refine yS_ ?_ GE333.out) | exact HB.out)) hb); clear BK332; clear BK333; clear HB; have BK332 := n0_; have BK333 := n1_; have HB := n2_; clear n0_ n1_ n2_; (try clear hb); (try clear hb2); (try clear hk); (try clear hi); have hcz12_0 : w11.cell? ⟨gb333, 0, none⟩ = some (.int .i64 a1_0) := (xC_ BK333.out 0).trans rfl; have hcz12_1 : w11.cell? ⟨gb333, 1, none⟩ = some (.int .i64 a1_1) := (xC_ BK333.out 1).trans rfl; have hcz12_2 : w11.cell? ⟨gb333, 2, none⟩ = some (.int .i64 a1_2) := (xC_ BK333.out 2).trans rfl; have hcz12_3 : w11.cell? ⟨gb333, 3, none⟩ = some (.string a1_3) := (xC_ BK333.out 3).trans rfl; have hcz12_4 : w11.cell? ⟨gb333, 4, none⟩ = some (.string a1_4) := (xC_ BK333.out 4).trans rfl; have hfz12_0 := xF_ BK333.out 0; have hfz12_1 := xF_ BK333.out 1; have hfz12_2 := xF_ BK333.out 2; have hfz12_3 := xF_ BK333.out 3; have hfz12_4 := xF_ BK333.out 4) | (go_at_call 14; (with_reducible refine (armadaref07_Check.calls k a1_0 a1_1 a1_2 a1_3 a1_4 t335 _ A8.out).mono ?_); rintro e w13 ⟨rfl, hb⟩; have n0_ := Aside0.mk (blk_below (g := gb332) (o := .cells #[.int .i64 a0_0, .int .i64 a0_1, .int .i64 a0_2, .string a0_3, .string a0_4] 23 (0, 0)) (by (with_reducible repeat (first | apply xN_ | apply xD_ | apply xA_)); exact BK332.out) hb); have n1_ := Aside0.mk (blk_below (g := gb333) (o := .cells #[.int .i64 a1_0, .int .i64 a1_1, .int .i64 a1_2, .string a1_3, .string a1_4] 23 (0, 0)) (by (with_reducible repeat (first | apply xN_ | apply xD_ | apply xA_)); exact BK333.out) hb); have n2_ := Aside0.mk (below_step (by repeat (first | (with_reducible first | exact HB.out | apply yA_ | apply yN_ | apply yD_ | refine yS_ ?_ GE332.out | refine yS_ ?_ GE333.out) | exact HB.out)) hb); clear BK332; clear BK333; clear HB; have BK332 := n0_; have BK333 := n1_; have HB := n2_; clear n0_ n1_ n2_; (try clear hb); (try clear hb2); (try clear hk); (try clear hi)))
   go_meet
   case rel => exact ⟨_, (!t335), (by first | rfl | (simp; done) | (simp [*]; done)), H', ⟨by first | omega | exact Nat.le_refl _⟩, ⟨by (with_reducible repeat (first | apply xN_ | apply xD_ | apply xA_)); exact BK332.out⟩, ⟨by (with_reducible repeat (first | apply xN_ | apply xD_ | apply xA_)); exact BK333.out⟩, ⟨by repeat (first | (with_reducible first | exact HB.out | apply yA_ | apply yN_ | apply yD_ | refine yS_ ?_ GE332.out | refine yS_ ?_ GE333.out) | exact HB.out)⟩⟩
  ·replace c7 := Bool.eq_false_iff.mpr c7
   subst c7
   have H1 : (armadaref07_Compare.j0 k true a0_0 a0_1 a0_2 a0_3 a0_4 a1_0 a1_1 a1_2 a1_3 a1_4) = some r := by rw [if_neg (show ¬ (false = true) by decide)] at H; exact H
   clear H
   have H := H1
   clear H1
   have H' := Aside0.mk H
   clear H
   have hnb14 := NB332_333.out
   have hnc14 := NB333_332.out
   have hcz15_0 : w5.cell? ⟨gb332, 0, none⟩ = some (.int .i64 a0_0) := (xC_ BK332.out 0).trans rfl
   have hcz15_1 : w5.cell? ⟨gb332, 1, none⟩ = some (.int .i64 a0_1) := (xC_ BK332.out 1).trans rfl
   have hcz15_2 : w5.cell? ⟨gb332, 2, none⟩ = some (.int .i64 a0_2) := (xC_ BK332.out 2).trans rfl
   have hcz15_3 : w5.cell? ⟨gb332, 3, none⟩ = some (.string a0_3) := (xC_ BK332.out 3).trans rfl
   have hcz15_4 : w5.cell? ⟨gb332, 4, none⟩ = some (.string a0_4) := (xC_ BK332.out 4).trans rfl
   have hfz15_0 := xF_ BK332.out 0
   have hfz15_1 := xF_ BK332.out 1
   have hfz15_2 := xF_ BK332.out 2
   have hfz15_3 := xF_ BK332.out 3
   have hfz15_4 := xF_ BK332.out 4
   go_wp2_with (first | ((with_reducible refine gate_callee (f := 14) rfl ?_); refine goesL_ (some 6) rfl rfl Tryd.func14 (by kernel_rfl) rfl #[.agg #[.int .i64 a0_0, .int .i64 a0_1, .int .i64 a0_2, .string a0_3, .string a0_4]] rfl (by (try simp only [List.map_toArray, List.map_cons, List.map_nil]); first | done | rfl) ?_; (with_reducible refine (armadaref07_Check.calls k a0_0 a0_1 a0_2 a0_3 a0_4 false _ A6.out).mono ?_); rintro e w16 ⟨rfl, hb⟩; refine ⟨_, rfl, ?_⟩; have n0_ := Aside0.mk (blk_below (g := gb332) (o := .cells #[.int .i64 a0_0, .int .i64 a0_1, .int .i64 a0_2, .string a0_3, .string a0_4] 23 (0, 0)) (by (with_reducible repeat (first | apply xN_ | apply xD_ | apply xA_)); exact BK332.out) hb); have n1_ := Aside0.mk (blk_below (g := gb333) (o := .cells #[.int .i64 a1_0, .int .i64 a1_1, .int .i64 a1_2, .string a1_3, .string a1_4] 23 (0, 0)) (by (with_reducible repeat (first | apply xN_ | apply xD_ | apply xA_)); exact BK333.out) hb); have n2_ := Aside0.mk (below_step (by repeat (first | (with_reducible first | exact HB.out | apply yA_ | apply yN_ | apply yD_ | refine yS_ ?_ GE332.out | refine yS_ ?_ GE333.out) | exact HB.out)) hb); clear BK332; clear BK333; clear HB; have BK332 := n0_; have BK333 := n1_; have HB := n2_; clear n0_ n1_ n2_; (try clear hb); (try clear hb2); (try clear hk); (try clear hi)))
   go_meet
   case rel => exact ⟨_, (true), (by first | rfl | (simp; done) | (simp [*]; done)), H', ⟨by first | omega | exact Nat.le_refl _⟩, ⟨by (with_reducible repeat (first | apply xN_ | apply xD_ | apply xA_)); exact BK332.out⟩, ⟨by (with_reducible repeat (first | apply xN_ | apply xD_ | apply xA_)); exact BK333.out⟩, ⟨by repeat (first | (with_reducible first | exact HB.out | apply yA_ | apply yN_ | apply yD_ | refine yS_ ?_ GE332.out | refine yS_ ?_ GE333.out) | exact HB.out)⟩⟩
 case rest =>
  clear HC3
  (try clear c1); (try clear c2); (try clear p2); (try clear c7); (try clear c9); (try clear c14); (try clear hcz10_0); (try clear hcz10_1); (try clear hcz10_2)
  (try clear hcz10_3); (try clear hcz10_4); (try clear hcz12_0); (try clear hcz12_1); (try clear hcz12_2); (try clear hcz12_3); (try clear hcz12_4); (try clear hcz15_0)
  (try clear hcz15_1); (try clear hcz15_2); (try clear hcz15_3); (try clear hcz15_4); (try clear hfz10_0); (try clear hfz10_1); (try clear hfz10_2); (try clear hfz10_3)
  (try clear hfz10_4); (try clear hfz12_0); (try clear hfz12_1); (try clear hfz12_2); (try clear hfz12_3); (try clear hfz12_4); (try clear hfz15_0); (try clear hfz15_1)
  (try clear hfz15_2); (try clear hfz15_3); (try clear hfz15_4)
  obtain ⟨kq, x12_2, rfl, HA, HJ2, BK332, BK333, HB⟩ := hcut
  cases kq with
  | zero => exact absurd HA.out (by simp [armadaref07_Compare.j0])
  | succ kj2 =>
   have H := HA.out
   clear HA
   simp only [armadaref07_Compare.j0] at H
   by_cases c17 : x12_2 = true
   ·subst c17
    have H1 : (some 0) = some r := by rw [if_pos rfl] at H; exact H
    clear H
    have H := H1
    clear H1
    obtain rfl := Option.some.inj H
    go_wp2
    go_ret
    exact ⟨by first | rfl | (simp [errW_none, errW_some] <;> rfl) | (simp [*, errW_none, errW_some] <;> rfl), by repeat (first | (with_reducible first | exact HB.out | apply yA_ | apply yN_ | apply yD_ | refine yS_ ?_ GE332.out | refine yS_ ?_ GE333.out) | exact HB.out)⟩
   ·replace c17 := Bool.eq_false_iff.mpr c17
    subst c17
    have H1 : (if a0_0 = a1_0 then (if a0_1 = a1_1 then (if a0_2 = a1_2 then ((armadaref07_pre.f kj2 a0_3 a1_3).bind fun t338 => (some t338)) else ((armadaref07_order.f a0_2 a1_2).bind fun t339 => (some t339))) else ((armadaref07_order.f a0_1 a1_1).bind fun t337 => (some t337))) else ((armadaref07_order.f a0_0 a1_0).bind fun t336 => (some t336))) = some r := by rw [if_neg (show ¬ (false = true) by decide)] at H; exact H
    clear H
    have H := H1
    clear H1
    by_cases c18 : a0_0 = a1_0
    ·rw [if_pos c18] at H
     have c18b0 : (a0_0 == a1_0) = true := beq_iff_eq.mpr c18
     have c18b1 : (a0_0 != a1_0) = false := bne_eq_false_iff_eq.mpr c18
     clear c18
     by_cases c19 : a0_1 = a1_1
     ·rw [if_pos c19] at H
      have c19b0 : (a0_1 == a1_1) = true := beq_iff_eq.mpr c19
      have c19b1 : (a0_1 != a1_1) = false := bne_eq_false_iff_eq.mpr c19
      clear c19
      by_cases c20 : a0_2 = a1_2
      ·rw [if_pos c20] at H
       have c20b0 : (a0_2 == a1_2) = true := beq_iff_eq.mpr c20
       have c20b1 : (a0_2 != a1_2) = false := bne_eq_false_iff_eq.mpr c20
       clear c20
       replace H := Option.bind_eq_some_iff.mp H
       obtain ⟨t338, A210, H⟩ := H
       replace H : (some t338) = some r := H
       have A21 := Aside0.mk A210
       clear A210
       obtain rfl := Option.some.inj H
       have hnb22 := NB332_333.out
       have hnc22 := NB333_332.out
       have hcz23_0 : wc.cell? ⟨gb332, 0, none⟩ = some (.int .i64 a0_0) := (xC_ BK332.out 0).trans rfl
       have hcz23_1 : wc.cell? ⟨gb332, 1, none⟩ = some (.int .i64 a0_1) := (xC_ BK332.out 1).trans rfl
       have hcz23_2 : wc.cell? ⟨gb332, 2, none⟩ = some (.int .i64 a0_2) := (xC_ BK332.out 2).trans rfl
       have hcz23_3 : wc.cell? ⟨gb332, 3, none⟩ = some (.string a0_3) := (xC_ BK332.out 3).trans rfl
       have hcz23_4 : wc.cell? ⟨gb332, 4, none⟩ = some (.string a0_4) := (xC_ BK332.out 4).trans rfl
       have hfz23_0 := xF_ BK332.out 0
       have hfz23_1 := xF_ BK332.out 1
       have hfz23_2 := xF_ BK332.out 2
       have hfz23_3 := xF_ BK332.out 3
       have hfz23_4 := xF_ BK332.out 4
       have hcz24_0 : wc.cell? ⟨gb333, 0, none⟩ = some (.int .i64 a1_0) := (xC_ BK333.out 0).trans rfl
       have hcz24_1 : wc.cell? ⟨gb333, 1, none⟩ = some (.int .i64 a1_1) := (xC_ BK333.out 1).trans rfl
       have hcz24_2 : wc.cell? ⟨gb333, 2, none⟩ = some (.int .i64 a1_2) := (xC_ BK333.out 2).trans rfl
       have hcz24_3 : wc.cell? ⟨gb333, 3, none⟩ = some (.string a1_3) := (xC_ BK333.out 3).trans rfl
       have hcz24_4 : wc.cell? ⟨gb333, 4, none⟩ = some (.string a1_4) := (xC_ BK333.out 4).trans rfl
       have hfz24_0 := xF_ BK333.out 0
       have hfz24_1 := xF_ BK333.out 1
       have hfz24_2 := xF_ BK333.out 2
       have hfz24_3 := xF_ BK333.out 3
       have hfz24_4 := xF_ BK333.out 4
       go_wp2_with (first | ((with_reducible refine gate_callee (f := 42) rfl ?_); refine goesL_ (some 47) rfl rfl Tryd.func42 (by kernel_rfl) rfl #[.string a0_3, .string a1_3] rfl (by (try simp only [List.map_toArray, List.map_cons, List.map_nil]); first | done | rfl) ?_; (with_reducible refine (armadaref07_pre.calls kj2 a0_3 a1_3 t338 _ A21.out).mono ?_); rintro e w25 ⟨rfl, hb⟩; refine ⟨_, rfl, ?_⟩; have n0_ := Aside0.mk (blk_below (g := gb332) (o := .cells #[.int .i64 a0_0, .int .i64 a0_1, .int .i64 a0_2, .string a0_3, .string a0_4] 23 (0, 0)) (by (with_reducible repeat (first | apply xN_ | apply xD_ | apply xA_)); exact BK332.out) hb); have n1_ := Aside0.mk (blk_below (g := gb333) (o := .cells #[.int .i64 a1_0, .int .i64 a1_1, .int .i64 a1_2, .string a1_3, .string a1_4] 23 (0, 0)) (by (with_reducible repeat (first | apply xN_ | apply xD_ | apply xA_)); exact BK333.out) hb); have n2_ := Aside0.mk (below_step (by repeat (first | (with_reducible first | exact HB.out | apply yA_ | apply yN_ | apply yD_ | refine yS_ ?_ GE332.out | refine yS_ ?_ GE333.out) | exact HB.out)) hb); clear BK332; clear BK333; clear HB; have BK332 := n0_; have BK333 := n1_; have HB := n2_; clear n0_ n1_ n2_; (try clear hb); (try clear hb2); (try clear hk); (try clear hi)))
       go_ret
       exact ⟨by first | rfl | (simp [errW_none, errW_some] <;> rfl) | (simp [*, errW_none, errW_some] <;> rfl), by repeat (first | (with_reducible first | exact HB.out | apply yA_ | apply yN_ | apply yD_ | refine yS_ ?_ GE332.out | refine yS_ ?_ GE333.out) | exact HB.out)⟩
      ·rw [if_neg c20] at H
       have c20b0 : (a0_2 == a1_2) = false := beq_eq_false_iff_ne.mpr c20
       have c20b1 : (a0_2 != a1_2) = true := bne_iff_ne.mpr c20
       replace H := Option.bind_eq_some_iff.mp H
       obtain ⟨t339, A260, H⟩ := H
       replace H : (some t339) = some r := H
       have A26 := Aside0.mk A260
       clear A260
       obtain rfl := Option.some.inj H
       have hnb27 := NB332_333.out
       have hnc27 := NB333_332.out
       have hcz28_0 : wc.cell? ⟨gb332, 0, none⟩ = some (.int .i64 a0_0) := (xC_ BK332.out 0).trans rfl
       have hcz28_1 : wc.cell? ⟨gb332, 1, none⟩ = some (.int .i64 a0_1) := (xC_ BK332.out 1).trans rfl
       have hcz28_2 : wc.cell? ⟨gb332, 2, none⟩ = some (.int .i64 a0_2) := (xC_ BK332.out 2).trans rfl
       have hcz28_3 : wc.cell? ⟨gb332, 3, none⟩ = some (.string a0_3) := (xC_ BK332.out 3).trans rfl
       have hcz28_4 : wc.cell? ⟨gb332, 4, none⟩ = some (.string a0_4) := (xC_ BK332.out 4).trans rfl
       have hfz28_0 := xF_ BK332.out 0
       have hfz28_1 := xF_ BK332.out 1
       have hfz28_2 := xF_ BK332.out 2
       have hfz28_3 := xF_ BK332.out 3
       have hfz28_4 := xF_ BK332.out 4
       have hcz29_0 : wc.cell? ⟨gb333, 0, none⟩ = some (.int .i64 a1_0) := (xC_ BK333.out 0).trans rfl
       have hcz29_1 : wc.cell? ⟨gb333, 1, none⟩ = some (.int .i64 a1_1) := (xC_ BK333.out 1).trans rfl
       have hcz29_2 : wc.cell? ⟨gb333, 2, none⟩ = some (.int .i64 a1_2) := (xC_ BK333.out 2).trans rfl
       have hcz29_3 : wc.cell? ⟨gb333, 3, none⟩ = some (.string a1_3) := (xC_ BK333.out 3).trans rfl
       have hcz29_4 : wc.cell? ⟨gb333, 4, none⟩ = some (.string a1_4) := (xC_ BK333.out 4).trans rfl
       have hfz29_0 := xF_ BK333.out 0
       have hfz29_1 := xF_ BK333.out 1
       have hfz29_2 := xF_ BK333.out 2
       have hfz29_3 := xF_ BK333.out 3
       have hfz29_4 := xF_ BK333.out 4
       go_wp2_with (first | ((with_reducible refine gate_callee (f := 41) rfl ?_); refine goesL_ (some 42) rfl rfl Tryd.func41 (by kernel_rfl) rfl #[.int .i64 a0_2, .int .i64 a1_2] rfl (by (try simp only [List.map_toArray, List.map_cons, List.map_nil]); first | done | rfl) ?_; (with_reducible refine (armadaref07_order.calls a0_2 a1_2 t339 _ A26.out).mono ?_); rintro e w' ⟨rfl, ⟨nd, rfl⟩⟩; refine ⟨_, rfl, ?_⟩) | (go_at_call 41; (with_reducible refine (armadaref07_order.calls a0_2 a1_2 t339 _ A26.out).mono ?_); rintro e w' ⟨rfl, ⟨nd, rfl⟩⟩))
       go_ret
       exact ⟨by first | rfl | (simp [errW_none, errW_some] <;> rfl) | (simp [*, errW_none, errW_some] <;> rfl), by repeat (first | (with_reducible first | exact HB.out | apply yA_ | apply yN_ | apply yD_ | refine yS_ ?_ GE332.out | refine yS_ ?_ GE333.out) | exact HB.out)⟩
     ·rw [if_neg c19] at H
      have c19b0 : (a0_1 == a1_1) = false := beq_eq_false_iff_ne.mpr c19
      have c19b1 : (a0_1 != a1_1) = true := bne_iff_ne.mpr c19
      replace H := Option.bind_eq_some_iff.mp H
      obtain ⟨t337, A300, H⟩ := H
      replace H : (some t337) = some r := H
      have A30 := Aside0.mk A300
      clear A300
      obtain rfl := Option.some.inj H
      have hnb31 := NB332_333.out
      have hnc31 := NB333_332.out
      have hcz32_0 : wc.cell? ⟨gb332, 0, none⟩ = some (.int .i64 a0_0) := (xC_ BK332.out 0).trans rfl
      have hcz32_1 : wc.cell? ⟨gb332, 1, none⟩ = some (.int .i64 a0_1) := (xC_ BK332.out 1).trans rfl
      have hcz32_2 : wc.cell? ⟨gb332, 2, none⟩ = some (.int .i64 a0_2) := (xC_ BK332.out 2).trans rfl
      have hcz32_3 : wc.cell? ⟨gb332, 3, none⟩ = some (.string a0_3) := (xC_ BK332.out 3).trans rfl
      have hcz32_4 : wc.cell? ⟨gb332, 4, none⟩ = some (.string a0_4) := (xC_ BK332.out 4).trans rfl
      have hfz32_0 := xF_ BK332.out 0
      have hfz32_1 := xF_ BK332.out 1
      have hfz32_2 := xF_ BK332.out 2
      have hfz32_3 := xF_ BK332.out 3
      have hfz32_4 := xF_ BK332.out 4
      have hcz33_0 : wc.cell? ⟨gb333, 0, none⟩ = some (.int .i64 a1_0) := (xC_ BK333.out 0).trans rfl
      have hcz33_1 : wc.cell? ⟨gb333, 1, none⟩ = some (.int .i64 a1_1) := (xC_ BK333.out 1).trans rfl
      have hcz33_2 : wc.cell? ⟨gb333, 2, none⟩ = some (.int .i64 a1_2) := (xC_ BK333.out 2).trans rfl
      have hcz33_3 : wc.cell? ⟨gb333, 3, none⟩ = some (.string a1_3) := (xC_ BK333.out 3).trans rfl
      have hcz33_4 : wc.cell? ⟨gb333, 4, none⟩ = some (.string a1_4) := (xC_ BK333.out 4).trans rfl
      have hfz33_0 := xF_ BK333.out 0
      have hfz33_1 := xF_ BK333.out 1
      have hfz33_2 := xF_ BK333.out 2
      have hfz33_3 := xF_ BK333.out 3
      have hfz33_4 := xF_ BK333.out 4
      go_wp2_with (first | ((with_reducible refine gate_callee (f := 41) rfl ?_); refine goesL_ (some 32) rfl rfl Tryd.func41 (by kernel_rfl) rfl #[.int .i64 a0_1, .int .i64 a1_1] rfl (by (try simp only [List.map_toArray, List.map_cons, List.map_nil]); first | done | rfl) ?_; (with_reducible refine (armadaref07_order.calls a0_1 a1_1 t337 _ A30.out).mono ?_); rintro e w' ⟨rfl, ⟨nd, rfl⟩⟩; refine ⟨_, rfl, ?_⟩) | (go_at_call 41; (with_reducible refine (armadaref07_order.calls a0_1 a1_1 t337 _ A30.out).mono ?_); rintro e w' ⟨rfl, ⟨nd, rfl⟩⟩))
      go_ret
      exact ⟨by first | rfl | (simp [errW_none, errW_some] <;> rfl) | (simp [*, errW_none, errW_some] <;> rfl), by repeat (first | (with_reducible first | exact HB.out | apply yA_ | apply yN_ | apply yD_ | refine yS_ ?_ GE332.out | refine yS_ ?_ GE333.out) | exact HB.out)⟩
    ·rw [if_neg c18] at H
     have c18b0 : (a0_0 == a1_0) = false := beq_eq_false_iff_ne.mpr c18
     have c18b1 : (a0_0 != a1_0) = true := bne_iff_ne.mpr c18
     replace H := Option.bind_eq_some_iff.mp H
     obtain ⟨t336, A340, H⟩ := H
     replace H : (some t336) = some r := H
     have A34 := Aside0.mk A340
     clear A340
     obtain rfl := Option.some.inj H
     have hnb35 := NB332_333.out
     have hnc35 := NB333_332.out
     have hcz36_0 : wc.cell? ⟨gb332, 0, none⟩ = some (.int .i64 a0_0) := (xC_ BK332.out 0).trans rfl
     have hcz36_1 : wc.cell? ⟨gb332, 1, none⟩ = some (.int .i64 a0_1) := (xC_ BK332.out 1).trans rfl
     have hcz36_2 : wc.cell? ⟨gb332, 2, none⟩ = some (.int .i64 a0_2) := (xC_ BK332.out 2).trans rfl
     have hcz36_3 : wc.cell? ⟨gb332, 3, none⟩ = some (.string a0_3) := (xC_ BK332.out 3).trans rfl
     have hcz36_4 : wc.cell? ⟨gb332, 4, none⟩ = some (.string a0_4) := (xC_ BK332.out 4).trans rfl
     have hfz36_0 := xF_ BK332.out 0
     have hfz36_1 := xF_ BK332.out 1
     have hfz36_2 := xF_ BK332.out 2
     have hfz36_3 := xF_ BK332.out 3
     have hfz36_4 := xF_ BK332.out 4
     have hcz37_0 : wc.cell? ⟨gb333, 0, none⟩ = some (.int .i64 a1_0) := (xC_ BK333.out 0).trans rfl
     have hcz37_1 : wc.cell? ⟨gb333, 1, none⟩ = some (.int .i64 a1_1) := (xC_ BK333.out 1).trans rfl
     have hcz37_2 : wc.cell? ⟨gb333, 2, none⟩ = some (.int .i64 a1_2) := (xC_ BK333.out 2).trans rfl
     have hcz37_3 : wc.cell? ⟨gb333, 3, none⟩ = some (.string a1_3) := (xC_ BK333.out 3).trans rfl
     have hcz37_4 : wc.cell? ⟨gb333, 4, none⟩ = some (.string a1_4) := (xC_ BK333.out 4).trans rfl
     have hfz37_0 := xF_ BK333.out 0
     have hfz37_1 := xF_ BK333.out 1
     have hfz37_2 := xF_ BK333.out 2
     have hfz37_3 := xF_ BK333.out 3
     have hfz37_4 := xF_ BK333.out 4
     go_wp2_with (first | ((with_reducible refine gate_callee (f := 41) rfl ?_); refine goesL_ (some 22) rfl rfl Tryd.func41 (by kernel_rfl) rfl #[.int .i64 a0_0, .int .i64 a1_0] rfl (by (try simp only [List.map_toArray, List.map_cons, List.map_nil]); first | done | rfl) ?_; (with_reducible refine (armadaref07_order.calls a0_0 a1_0 t336 _ A34.out).mono ?_); rintro e w' ⟨rfl, ⟨nd, rfl⟩⟩; refine ⟨_, rfl, ?_⟩) | (go_at_call 41; (with_reducible refine (armadaref07_order.calls a0_0 a1_0 t336 _ A34.out).mono ?_); rintro e w' ⟨rfl, ⟨nd, rfl⟩⟩))
     go_ret
     exact ⟨by first | rfl | (simp [errW_none, errW_some] <;> rfl) | (simp [*, errW_none, errW_some] <;> rfl), by repeat (first | (with_reducible first | exact HB.out | apply yA_ | apply yN_ | apply yD_ | refine yS_ ?_ GE332.out | refine yS_ ?_ GE333.out) | exact HB.out)⟩
end Go.Proofs.YthoiepkejhhcoaaDoor.P
