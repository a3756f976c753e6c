/- Printed functions, merged. -/
import Derived.Test.YthoiepkejhhcoaaDoorZVQM0
import Derived.Test.YthoiepkejhhcoaaDoorZVQVGiven
import Derived.Test.YthoiepkejhhcoaaDoorZVQGStr
import Derived.Test.YthoiepkejhhcoaaDoorZVQAl
namespace Go.Proofs.YthoiepkejhhcoaaDoor.P
open Go.RowKit Go.Proofs.YthoiepkejhhcoaaDoorW.PrintWords Go.Proofs.YthoiepkejhhcoaaDoorW.PrintLast Go.Proofs.YthoiepkejhhcoaaDoorW.PrintMore
attribute [local go_sem] max2_int min2_int max_two min_two max_three min_three max_four min_four   -- for this text's walks alone
set_option linter.unusedVariables false
set_option linter.unusedSimpArgs false
def ver_byWord.j0 : Nat → ByteArray → ByteArray → Bool → Bool → Bool → Option (Int)
 | 0, _, _, _, _, _ => none
 | k + 1, x0, x1, x5, x6, x11 => if x11 = true then ((cmp_Compare_int.f (x0.size : Int) (x1.size : Int)).bind fun t149 => ((strings_Compare.f x0 x1).bind fun t150 => ((cmp_Or_int.f k (([t149, t150] : List Int))).bind fun t154 => (some t154)))) else (if x5 = true then (some (-1)) else (if x6 = true then (some 1) else ((strings_Compare.f x0 x1).bind fun t155 => (some t155))))
def ver_byWord.f (k : Nat) (a0 : ByteArray) (a1 : ByteArray) : Option (Int) := (ver_digits.f k a0).bind fun t147 => ((ver_digits.f k a1).bind fun t148 => (if t147 = true then (ver_byWord.j0 k a0 a1 t147 t148 t148) else (ver_byWord.j0 k a0 a1 t147 t148 false)))
theorem ver_byWord.mono_l : ∀ k, (∀ y0 y1 y2 y3 y4, LeO (ver_byWord.j0 k y0 y1 y2 y3 y4) (ver_byWord.j0 (k + 1) y0 y1 y2 y3 y4))
 | 0 => fun _ _ _ _ _ r h => by simp [ver_byWord.j0] at h
 | k + 1 => by
  have ih0 := ver_byWord.mono_l k
  ·intro y0 y1 y2 y3 y4
   unfold ver_byWord.j0
   repeat' first
   | (with_reducible exact ih0 _ _ _ _ _)
   | (with_reducible exact cmp_Or_int.mono _ _)
   | (with_reducible exact ver_digits.mono _ _)
   | (with_reducible exact LeO.refl _)
   | (with_reducible exact LeO.none _)
   | (with_reducible refine LeO.ite ?_ ?_)
   | (with_reducible refine LeO.bind ?_ (fun _ => ?_))
   | exact ih0 _ _ _ _ _
   | exact cmp_Or_int.mono _ _
   | exact ver_digits.mono _ _
   | exact LeO.none _
   | refine LeO.ite ?_ ?_
   | refine LeO.bind ?_ (fun _ => ?_)
theorem ver_byWord.mono : ∀ a0 a1 k, LeO (ver_byWord.f k a0 a1) (ver_byWord.f (k + 1) a0 a1) := by
 intro a0 a1 k
 have ih0 := ver_byWord.mono_l k
 unfold ver_byWord.f
 repeat' first
   | (with_reducible exact ih0 _ _ _ _ _)
   | (with_reducible exact cmp_Or_int.mono _ _)
   | (with_reducible exact ver_digits.mono _ _)
   | (with_reducible exact LeO.refl _)
   | (with_reducible exact LeO.none _)
   | (with_reducible refine LeO.ite ?_ ?_)
   | (with_reducible refine LeO.bind ?_ (fun _ => ?_))
   | exact ih0 _ _ _ _ _
   | exact cmp_Or_int.mono _ _
   | exact ver_digits.mono _ _
   | exact LeO.none _
   | refine LeO.ite ?_ ?_
   | refine LeO.bind ?_ (fun _ => ?_)
set_option maxHeartbeats 8000000 in
set_option maxRecDepth 100000 in
theorem ver_byWord.calls (k : Nat) (a0 : ByteArray) (a1 : ByteArray) (r : Int) (w : World) (h : ver_byWord.f k a0 a1 = some r) :
  Calls Tryd.prog 55 #[.string a0, .string a1] w fun e w' => e = .returned (.int .i64 r) ∧ Below w.heap.size w w' := by
 have HB := Aside0.mk (Below.refl w.heap.size w)
 have H : ((ver_digits.f k a0).bind fun t147 => ((ver_digits.f k a1).bind fun t148 => (if t147 = true then (ver_byWord.j0 k a0 a1 t147 t148 t148) else (ver_byWord.j0 k a0 a1 t147 t148 false)))) = some r := h
 clear h
 replace H := Option.bind_eq_some_iff.mp H
 obtain ⟨t147, A30, H⟩ := H
 replace H : ((ver_digits.f k a1).bind fun t148 => (if t147 = true then (ver_byWord.j0 k a0 a1 t147 t148 t148) else (ver_byWord.j0 k a0 a1 t147 t148 false))) = some r := H
 have A3 := Aside0.mk A30
 clear A30
 replace H := Option.bind_eq_some_iff.mp H
 obtain ⟨t148, A40, H⟩ := H
 replace H : (if t147 = true then (ver_byWord.j0 k a0 a1 t147 t148 t148) else (ver_byWord.j0 k a0 a1 t147 t148 false)) = some r := H
 have A4 := Aside0.mk A40
 clear A40
 have HC5 := Aside0.mk H
 clear H
 go_enter Tryd.func55, Tryd.ntmps55
 go_upto_region 2 with (first | ((with_reducible refine gate_callee (f := 51) rfl ?_); refine goesL_ (some 8) rfl rfl Tryd.func51 (by kernel_rfl) rfl #[.string a0] rfl (by (try simp only [List.map_toArray, List.map_cons, List.map_nil]); first | done | rfl) ?_; (with_reducible refine (ver_digits.calls k a0 t147 _ A3.out).mono ?_); rintro e w' ⟨rfl, ⟨nd, rfl⟩⟩; refine ⟨_, rfl, ?_⟩) | (go_at_call 51; (with_reducible refine (ver_digits.calls k a0 t147 _ A3.out).mono ?_); rintro e w' ⟨rfl, ⟨nd, rfl⟩⟩) | ((with_reducible refine gate_callee (f := 51) rfl ?_); refine goesL_ (some 10) rfl rfl Tryd.func51 (by kernel_rfl) rfl #[.string a1] rfl (by (try simp only [List.map_toArray, List.map_cons, List.map_nil]); first | done | rfl) ?_; (with_reducible refine (ver_digits.calls k a1 t148 _ A4.out).mono ?_); rintro e w' ⟨rfl, ⟨nd, rfl⟩⟩; refine ⟨_, rfl, ?_⟩) | (go_at_call 51; (with_reducible refine (ver_digits.calls k a1 t148 _ A4.out).mono ?_); rintro e w' ⟨rfl, ⟨nd, rfl⟩⟩))
 (try simp only [Act.put, List.setIfInBounds_toArray, List.set_cons_zero, List.set_cons_succ])
 go_cut [11] (fun v11 wc => ∃ (kq : Nat) (x11_4 : Bool), v11 = .bool x11_4 ∧ Aside0 (ver_byWord.j0 kq a0 a1 t147 t148 x11_4 = some r) ∧ Aside0 (kq ≤ k) ∧ Aside0 (Below w.heap.size w wc))
 case first =>
  have H := HC5.out
  clear HC5
  by_cases c6 : t147 = true
  ·subst c6
   have H1 : (ver_byWord.j0 k a0 a1 true t148 t148) = some r := by rw [if_pos rfl] at H; exact H
   clear H
   have H := H1
   clear H1
   have H' := Aside0.mk H
   clear H
   go_wp2
   go_meet
   case rel => exact ⟨_, (t148), (by first | rfl | (simp; done) | (simp [*]; done)), H', ⟨by first | omega | exact Nat.le_refl _⟩, ⟨by repeat (first | (with_reducible first | exact HB.out | apply yA_ | apply yN_ | apply yD_) | exact HB.out)⟩⟩
  ·replace c6 := Bool.eq_false_iff.mpr c6
   subst c6
   have H1 : (ver_byWord.j0 k a0 a1 false t148 false) = some r := by rw [if_neg (show ¬ (false = true) by decide)] at H; exact H
   clear H
   have H := H1
   clear H1
   have H' := Aside0.mk H
   clear H
   go_wp2
   go_meet
   case rel => exact ⟨_, (false), (by first | rfl | (simp; done) | (simp [*]; done)), H', ⟨by first | omega | exact Nat.le_refl _⟩, ⟨by repeat (first | (with_reducible first | exact HB.out | apply yA_ | apply yN_ | apply yD_) | exact HB.out)⟩⟩
 case rest =>
  clear HC5
  (try clear p2); (try clear c5); (try clear c6)
  obtain ⟨kq, x11_4, rfl, HA, HJ4, HB⟩ := hcut
  cases kq with
  | zero => exact absurd HA.out (by simp [ver_byWord.j0])
  | succ kj4 =>
   have H := HA.out
   clear HA
   simp only [ver_byWord.j0] at H
   by_cases c7 : x11_4 = true
   ·subst c7
    have H1 : ((cmp_Compare_int.f (a0.size : Int) (a1.size : Int)).bind fun t149 => ((strings_Compare.f a0 a1).bind fun t150 => ((cmp_Or_int.f kj4 (([t149, t150] : List Int))).bind fun t154 => (some t154)))) = some r := by rw [if_pos rfl] at H; exact H
    clear H
    have H := H1
    clear H1
    replace H := Option.bind_eq_some_iff.mp H
    obtain ⟨t149, A80, H⟩ := H
    replace H : ((strings_Compare.f a0 a1).bind fun t150 => ((cmp_Or_int.f kj4 (([t149, t150] : List Int))).bind fun t154 => (some t154))) = some r := H
    have A8 := Aside0.mk A80
    clear A80
    replace H := Option.bind_eq_some_iff.mp H
    obtain ⟨t150, A90, H⟩ := H
    replace H : ((cmp_Or_int.f kj4 (([t149, t150] : List Int))).bind fun t154 => (some t154)) = some r := H
    have A9 := Aside0.mk A90
    clear A90
    obtain ⟨y151, hy151⟩ : ∃ y_ : List Int, y_ = (([t149, t150] : List Int)) := ⟨_, rfl⟩
    replace H : ((cmp_Or_int.f kj4 y151).bind fun t154 => (some t154)) = some r := by first | (rw [hy151]; with_reducible exact H) | (have H2_ := (Option.bind_some _ _).symm.trans H; rw [hy151]; with_reducible exact H2_) | (have H2_ := (Option.bind_some _ _).symm.trans H; with_reducible exact H2_) | with_reducible exact H | (rw [hy151]; exact H) | exact H
    have Ny151 := Aside0.mk hy151
    clear hy151
    replace H := Option.bind_eq_some_iff.mp H
    obtain ⟨t154, A100, H⟩ := H
    replace H : (some t154) = some r := H
    have A10 := Aside0.mk A100
    clear A100
    obtain rfl := Option.some.inj H
    go_wp2_with (first | ((with_reducible refine gate_callee (f := 39) rfl ?_); refine goesL_ (some 20) rfl rfl Tryd.func39 (by kernel_rfl) rfl #[.int .i64 (a0.size : Int), .int .i64 (a1.size : Int)] rfl (by (try simp only [List.map_toArray, List.map_cons, List.map_nil]); first | done | rfl) ?_; (with_reducible refine (cmp_Compare_int.calls (a0.size : Int) (a1.size : Int) t149 _ A8.out).mono ?_); rintro e w' ⟨rfl, ⟨nd, rfl⟩⟩; refine ⟨_, rfl, ?_⟩) | (go_at_call 39; (with_reducible refine (cmp_Compare_int.calls (a0.size : Int) (a1.size : Int) t149 _ A8.out).mono ?_); rintro e w' ⟨rfl, ⟨nd, rfl⟩⟩) | ((with_reducible refine gate_callee (f := 71) rfl ?_); refine goesL_ (some 23) rfl rfl Tryd.func71 (by kernel_rfl) rfl #[.string a0, .string a1] rfl (by (try simp only [List.map_toArray, List.map_cons, List.map_nil]); first | done | rfl) ?_; (with_reducible refine (strings_Compare.calls a0 a1 t150 _ A9.out).mono ?_); rintro e w' ⟨rfl, ⟨nd, rfl⟩⟩; refine ⟨_, rfl, ?_⟩) | (go_at_call 71; (with_reducible refine (strings_Compare.calls a0 a1 t150 _ A9.out).mono ?_); rintro e w' ⟨rfl, ⟨nd, rfl⟩⟩) | ((with_reducible refine gate_dst (N := 24) rfl ?_); refine Kd.R_lit (Kd.int .i64) _ 3 ?hg (N := 24) ?hd (xs := ([t149, t150] : List Int)) (inner := [.int .i64 t149, .int .i64 t150]) (ok := fun _ => True) (okp := fun _ => True) ?hr ?hp (fun _ hk => hk) trivial (Below.refl _ _) (Nat.le_refl _) (by simp) ?_; (case hd => rfl); (case hg => rfl); (case hr => first | (go_simp; done) | (go_simp; rfl)); (case hp => exact (Reps.one (show Kd.M (Kd.int .i64) _ _ _ t149 [.int .i64 t149] from rfl) (Reps.one (show Kd.M (Kd.int .i64) _ _ _ t150 [.int .i64 t150] from rfl) (Reps.none _ _)))); intro v152 w11 ho12 hb hg_ hnew_; clear hg_ hnew_; (first | rw [← Ny151.out] at ho12 | (simp only [Int.reduceToNat] at ho12; rw [← Ny151.out] at ho12)); have n0_ := Aside0.mk (Kd.R_lower ho12 (below_size (by repeat (first | (with_reducible first | exact HB.out | apply yA_ | apply yN_ | apply yD_) | exact HB.out)))); have n1_ := Aside0.mk (below_step (by repeat (first | (with_reducible first | exact HB.out | apply yA_ | apply yN_ | apply yD_) | exact HB.out)) hb); clear HB; have HO153 := n0_; have HB := n1_; clear n0_ n1_; clear hb ho12; obtain ⟨Ao13, co13, eo13⟩ := Kd.R_slice HO153.out; subst eo13) | ((with_reducible refine gate_callee (f := 38) rfl ?_); refine goesL_ (some 25) rfl rfl Tryd.func38 (by kernel_rfl) rfl #[.slice Ao13 y151.length co13] rfl (by (try simp only [List.map_toArray, List.map_cons, List.map_nil]); first | done | rfl) ?_; (with_reducible refine (cmp_Or_int.calls kj4 _ _ y151 t154 _ ?side1 ?side2 A10.out).mono ?_); (case side1 => repeat (first | exact (Kd.R_reads' HO153.out).2.2 | (with_reducible refine Kd.C_alloc ?_ _) | (with_reducible refine Kd.C_drewN ?_ _) | (with_reducible refine Kd.C_drew ?_))); (case side2 => exact (Kd.R_reads' HO153.out).2.1); rintro e w' ⟨rfl, ⟨nd, rfl⟩⟩; refine ⟨_, rfl, ?_⟩) | (go_at_call 38; (with_reducible refine (cmp_Or_int.calls kj4 _ _ y151 t154 _ ?side1 ?side2 A10.out).mono ?_); (case side1 => repeat (first | exact (Kd.R_reads' HO153.out).2.2 | (with_reducible refine Kd.C_alloc ?_ _) | (with_reducible refine Kd.C_drewN ?_ _) | (with_reducible refine Kd.C_drew ?_))); (case side2 => exact (Kd.R_reads' HO153.out).2.1); rintro e w' ⟨rfl, ⟨nd, rfl⟩⟩))
    go_ret
    exact ⟨by first | rfl | (simp [errW_none, errW_some] <;> rfl) | (simp [*, errW_none, errW_some] <;> rfl), by repeat (first | (with_reducible first | exact HB.out | apply yA_ | apply yN_ | apply yD_) | exact HB.out)⟩
   ·replace c7 := Bool.eq_false_iff.mpr c7
    subst c7
    have H1 : (if t147 = true then (some (-1)) else (if t148 = true then (some 1) else ((strings_Compare.f a0 a1).bind fun t155 => (some t155)))) = some r := by rw [if_neg (show ¬ (false = true) by decide)] at H; exact H
    clear H
    have H := H1
    clear H1
    by_cases c14 : t147 = true
    ·subst c14
     have H1 : (some (-1)) = some r := by rw [if_pos rfl] at H; exact H
     clear H
     have H := H1
     clear H1
     obtain rfl := Option.some.inj H
     go_wp2
     go_ret
     exact ⟨by first | rfl | (simp [errW_none, errW_some] <;> rfl) | (simp [*, errW_none, errW_some] <;> rfl), by repeat (first | (with_reducible first | exact HB.out | apply yA_ | apply yN_ | apply yD_) | exact HB.out)⟩
    ·replace c14 := Bool.eq_false_iff.mpr c14
     subst c14
     have H1 : (if t148 = true then (some 1) else ((strings_Compare.f a0 a1).bind fun t155 => (some t155))) = some r := by rw [if_neg (show ¬ (false = true) by decide)] at H; exact H
     clear H
     have H := H1
     clear H1
     by_cases c15 : t148 = true
     ·subst c15
      have H1 : (some 1) = some r := by rw [if_pos rfl] at H; exact H
      clear H
      have H := H1
      clear H1
      obtain rfl := Option.some.inj H
      go_wp2
      go_ret
      exact ⟨by first | rfl | (simp [errW_none, errW_some] <;> rfl) | (simp [*, errW_none, errW_some] <;> rfl), by repeat (first | (with_reducible first | exact HB.out | apply yA_ | apply yN_ | apply yD_) | exact HB.out)⟩
     ·replace c15 := Bool.eq_false_iff.mpr c15
      subst c15
      have H1 : ((strings_Compare.f a0 a1).bind fun t155 => (some t155)) = some r := by rw [if_neg (show ¬ (false = true) by decide)] at H; exact H
      clear H
      have H := H1
      clear H1
      replace H := Option.bind_eq_some_iff.mp H
      obtain ⟨t155, A160, H⟩ := H
      replace H : (some t155) = some r := H
      have A16 := Aside0.mk A160
      clear A160
      obtain rfl := Option.some.inj H
      go_wp2_with (first | ((with_reducible refine gate_callee (f := 71) rfl ?_); refine goesL_ (some 32) rfl rfl Tryd.func71 (by kernel_rfl) rfl #[.string a0, .string a1] rfl (by (try simp only [List.map_toArray, List.map_cons, List.map_nil]); first | done | rfl) ?_; (with_reducible refine (strings_Compare.calls a0 a1 t155 _ A16.out).mono ?_); rintro e w' ⟨rfl, ⟨nd, rfl⟩⟩; refine ⟨_, rfl, ?_⟩) | (go_at_call 71; (with_reducible refine (strings_Compare.calls a0 a1 t155 _ A16.out).mono ?_); rintro e w' ⟨rfl, ⟨nd, rfl⟩⟩))
      go_ret
      exact ⟨by first | rfl | (simp [errW_none, errW_some] <;> rfl) | (simp [*, errW_none, errW_some] <;> rfl), by repeat (first | (with_reducible first | exact HB.out | apply yA_ | apply yN_ | apply yD_) | exact HB.out)⟩
section
attribute [local go_sem high] gtr_str
mutual
def armadaref07_words.j0 : Nat → ByteArray → ByteArray → Bool → Bool → Bool → Option (Int)
 | 0, _, _, _, _, _ => none
 | k + 1, x0, x1, x5, x6, x21 => if x21 = true then ((armadaref07_order.f (x0.size : Int) (x1.size : Int)).bind fun t316 => (some t316)) else (if x5 = true then (armadaref07_words.j1 k x0 x1 x5 x6 (!x6)) else (armadaref07_words.j1 k x0 x1 x5 x6 false))
def armadaref07_words.j1 : Nat → ByteArray → ByteArray → Bool → Bool → Bool → Option (Int)
 | 0, _, _, _, _, _ => none
 | k + 1, x0, x1, x5, x6, x31 => if x31 = true then (some (-1)) else (if x6 = true then (armadaref07_words.j2 k x0 x1 (!x5)) else (armadaref07_words.j2 k x0 x1 false))
def armadaref07_words.j2 : Nat → ByteArray → ByteArray → Bool → Option (Int)
 | 0, _, _, _ => none
 | k + 1, x0, x1, x36 => if x36 = true then (some 1) else (if (Op.bytesLess x0.toList x1.toList) = true then (some (-1)) else (if (Op.bytesLess x1.toList x0.toList) = true then (some 1) else (some 0)))
end
def armadaref07_words.f (k : Nat) (a0 : ByteArray) (a1 : ByteArray) : Option (Int) := (armadaref07_digits.f k a0).bind fun t314 => ((armadaref07_digits.f k a1).bind fun t315 => (if t314 = true then (if t315 = true then (armadaref07_words.j0 k a0 a1 t314 t315 ((a0.size : Int) != (a1.size : Int))) else (armadaref07_words.j0 k a0 a1 t314 t315 false)) else (armadaref07_words.j0 k a0 a1 t314 t315 false)))
theorem armadaref07_words.mono_l : ∀ k, (∀ y0 y1 y2 y3 y4, LeO (armadaref07_words.j0 k y0 y1 y2 y3 y4) (armadaref07_words.j0 (k + 1) y0 y1 y2 y3 y4)) ∧ (∀ y0 y1 y2 y3 y4, LeO (armadaref07_words.j1 k y0 y1 y2 y3 y4) (armadaref07_words.j1 (k + 1) y0 y1 y2 y3 y4)) ∧ (∀ y0 y1 y2, LeO (armadaref07_words.j2 k y0 y1 y2) (armadaref07_words.j2 (k + 1) y0 y1 y2))
 | 0 => ⟨fun _ _ _ _ _ r h => by simp [armadaref07_words.j0] at h, fun _ _ _ _ _ r h => by simp [armadaref07_words.j1] at h, fun _ _ _ r h => by simp [armadaref07_words.j2] at h⟩
 | k + 1 => by
  obtain ⟨ih0, ih1, ih2⟩ := armadaref07_words.mono_l k
  refine ⟨?_, ?_, ?_⟩
  ·intro y0 y1 y2 y3 y4
   unfold armadaref07_words.j0
   repeat' first
   | (with_reducible exact ih0 _ _ _ _ _)
   | (with_reducible exact ih1 _ _ _ _ _)
   | (with_reducible exact ih2 _ _ _)
   | (with_reducible exact armadaref07_digits.mono _ _)
   | (with_reducible exact LeO.refl _)
   | (with_reducible exact LeO.none _)
   | (with_reducible refine LeO.ite ?_ ?_)
   | (with_reducible refine LeO.bind ?_ (fun _ => ?_))
   | exact ih0 _ _ _ _ _
   | exact ih1 _ _ _ _ _
   | exact ih2 _ _ _
   | exact armadaref07_digits.mono _ _
   | exact LeO.none _
   | refine LeO.ite ?_ ?_
   | refine LeO.bind ?_ (fun _ => ?_)
  ·intro y0 y1 y2 y3 y4
   unfold armadaref07_words.j1
   repeat' first
   | (with_reducible exact ih0 _ _ _ _ _)
   | (with_reducible exact ih1 _ _ _ _ _)
   | (with_reducible exact ih2 _ _ _)
   | (with_reducible exact armadaref07_digits.mono _ _)
   | (with_reducible exact LeO.refl _)
   | (with_reducible exact LeO.none _)
   | (with_reducible refine LeO.ite ?_ ?_)
   | (with_reducible refine LeO.bind ?_ (fun _ => ?_))
   | exact ih0 _ _ _ _ _
   | exact ih1 _ _ _ _ _
   | exact ih2 _ _ _
   | exact armadaref07_digits.mono _ _
   | exact LeO.none _
   | refine LeO.ite ?_ ?_
   | refine LeO.bind ?_ (fun _ => ?_)
  ·intro y0 y1 y2
   unfold armadaref07_words.j2
   repeat' first
   | (with_reducible exact ih0 _ _ _ _ _)
   | (with_reducible exact ih1 _ _ _ _ _)
   | (with_reducible exact ih2 _ _ _)
   | (with_reducible exact armadaref07_digits.mono _ _)
   | (with_reducible exact LeO.refl _)
   | (with_reducible exact LeO.none _)
   | (with_reducible refine LeO.ite ?_ ?_)
   | (with_reducible refine LeO.bind ?_ (fun _ => ?_))
   | exact ih0 _ _ _ _ _
   | exact ih1 _ _ _ _ _
   | exact ih2 _ _ _
   | exact armadaref07_digits.mono _ _
   | exact LeO.none _
   | refine LeO.ite ?_ ?_
   | refine LeO.bind ?_ (fun _ => ?_)
theorem armadaref07_words.mono : ∀ a0 a1 k, LeO (armadaref07_words.f k a0 a1) (armadaref07_words.f (k + 1) a0 a1) := by
 intro a0 a1 k
 obtain ⟨ih0, ih1, ih2⟩ := armadaref07_words.mono_l k
 unfold armadaref07_words.f
 repeat' first
   | (with_reducible exact ih0 _ _ _ _ _)
   | (with_reducible exact ih1 _ _ _ _ _)
   | (with_reducible exact ih2 _ _ _)
   | (with_reducible exact armadaref07_digits.mono _ _)
   | (with_reducible exact LeO.refl _)
   | (with_reducible exact LeO.none _)
   | (with_reducible refine LeO.ite ?_ ?_)
   | (with_reducible refine LeO.bind ?_ (fun _ => ?_))
   | exact ih0 _ _ _ _ _
   | exact ih1 _ _ _ _ _
   | exact ih2 _ _ _
   | exact armadaref07_digits.mono _ _
   | exact LeO.none _
   | refine LeO.ite ?_ ?_
   | refine LeO.bind ?_ (fun _ => ?_)
set_option maxHeartbeats 8000000 in
set_option maxRecDepth 100000 in
theorem armadaref07_words.calls (k : Nat) (a0 : ByteArray) (a1 : ByteArray) (r : Int) (w : World) (h : armadaref07_words.f k a0 a1 = some r) :
  Calls Tryd.prog 57 #[.string a0, .string a1] w fun e w' => e = .returned (.int .i64 r) ∧ Drawn0 w w' := by
 have H : ((armadaref07_digits.f k a0).bind fun t314 => ((armadaref07_digits.f k a1).bind fun t315 => (if t314 = true then (if t315 = true then (armadaref07_words.j0 k a0 a1 t314 t315 ((a0.size : Int) != (a1.size : Int))) else (armadaref07_words.j0 k a0 a1 t314 t315 false)) else (armadaref07_words.j0 k a0 a1 t314 t315 false)))) = some r := h
 clear h
 replace H := Option.bind_eq_some_iff.mp H
 obtain ⟨t314, A30, H⟩ := H
 replace H : ((armadaref07_digits.f k a1).bind fun t315 => (if t314 = true then (if t315 = true then (armadaref07_words.j0 k a0 a1 t314 t315 ((a0.size : Int) != (a1.size : Int))) else (armadaref07_words.j0 k a0 a1 t314 t315 false)) else (armadaref07_words.j0 k a0 a1 t314 t315 false))) = some r := H
 have A3 := Aside0.mk A30
 clear A30
 replace H := Option.bind_eq_some_iff.mp H
 obtain ⟨t315, A40, H⟩ := H
 replace H : (if t314 = true then (if t315 = true then (armadaref07_words.j0 k a0 a1 t314 t315 ((a0.size : Int) != (a1.size : Int))) else (armadaref07_words.j0 k a0 a1 t314 t315 false)) else (armadaref07_words.j0 k a0 a1 t314 t315 false)) = some r := H
 have A4 := Aside0.mk A40
 clear A40
 have HC5 := Aside0.mk H
 clear H
 go_enter Tryd.func57, Tryd.ntmps57
 go_upto_region 3 with (first | ((with_reducible refine gate_callee (f := 48) rfl ?_); refine goesL_ (some 8) rfl rfl Tryd.func48 (by kernel_rfl) rfl #[.string a0] rfl (by (try simp only [List.map_toArray, List.map_cons, List.map_nil]); first | done | rfl) ?_; (with_reducible refine (armadaref07_digits.calls k a0 t314 _ A3.out).mono ?_); rintro e w' ⟨rfl, ⟨nd, rfl⟩⟩; refine ⟨_, rfl, ?_⟩) | (go_at_call 48; (with_reducible refine (armadaref07_digits.calls k a0 t314 _ A3.out).mono ?_); rintro e w' ⟨rfl, ⟨nd, rfl⟩⟩) | ((with_reducible refine gate_callee (f := 48) rfl ?_); refine goesL_ (some 10) rfl rfl Tryd.func48 (by kernel_rfl) rfl #[.string a1] rfl (by (try simp only [List.map_toArray, List.map_cons, List.map_nil]); first | done | rfl) ?_; (with_reducible refine (armadaref07_digits.calls k a1 t315 _ A4.out).mono ?_); rintro e w' ⟨rfl, ⟨nd, rfl⟩⟩; refine ⟨_, rfl, ?_⟩) | (go_at_call 48; (with_reducible refine (armadaref07_digits.calls k a1 t315 _ A4.out).mono ?_); rintro e w' ⟨rfl, ⟨nd, rfl⟩⟩))
 (try simp only [Act.put, List.setIfInBounds_toArray, List.set_cons_zero, List.set_cons_succ])
 go_cut [21] (fun v21 wc => ∃ (kq : Nat) (x21_4 : Bool), v21 = .bool x21_4 ∧ Aside0 (armadaref07_words.j0 kq a0 a1 t314 t315 x21_4 = some r) ∧ Aside0 (kq ≤ k) ∧ Drawn0 w wc)
 case first =>
  have H := HC5.out
  clear HC5
  by_cases c6 : t314 = true
  ·subst c6
   have H1 : (if t315 = true then (armadaref07_words.j0 k a0 a1 true t315 ((a0.size : Int) != (a1.size : Int))) else (armadaref07_words.j0 k a0 a1 true t315 false)) = some r := by rw [if_pos rfl] at H; exact H
   clear H
   have H := H1
   clear H1
   by_cases c7 : t315 = true
   ·subst c7
    have H1 : (armadaref07_words.j0 k a0 a1 true true ((a0.size : Int) != (a1.size : Int))) = some r := by rw [if_pos rfl] at H; exact H
    clear H
    have H := H1
    clear H1
    have H' := Aside0.mk H
    clear H
    go_wp2
    go_meet
    case rel => exact ⟨_, (((a0.size : Int) != (a1.size : Int))), (by first | rfl | (simp; done) | (simp [*]; done)), H', ⟨by first | omega | exact Nat.le_refl _⟩, by repeat (first | exact Drawn0.refl _ | apply Drawn0.step)⟩
   ·replace c7 := Bool.eq_false_iff.mpr c7
    subst c7
    have H1 : (armadaref07_words.j0 k a0 a1 true false false) = some r := by rw [if_neg (show ¬ (false = true) by decide)] at H; exact H
    clear H
    have H := H1
    clear H1
    have H' := Aside0.mk H
    clear H
    go_wp2
    go_meet
    case rel => exact ⟨_, (false), (by first | rfl | (simp; done) | (simp [*]; done)), H', ⟨by first | omega | exact Nat.le_refl _⟩, by repeat (first | exact Drawn0.refl _ | apply Drawn0.step)⟩
  ·replace c6 := Bool.eq_false_iff.mpr c6
   subst c6
   have H1 : (armadaref07_words.j0 k a0 a1 false t315 false) = some r := by rw [if_neg (show ¬ (false = true) by decide)] at H; exact H
   clear H
   have H := H1
   clear H1
   have H' := Aside0.mk H
   clear H
   go_wp2
   go_meet
   case rel => exact ⟨_, (false), (by first | rfl | (simp; done) | (simp [*]; done)), H', ⟨by first | omega | exact Nat.le_refl _⟩, by repeat (first | exact Drawn0.refl _ | apply Drawn0.step)⟩
 case rest =>
  clear HC5
  (try clear p2); (try clear c4); (try clear c5); (try clear c6); (try clear c7)
  obtain ⟨kq, x21_4, rfl, HA, HJ4, ⟨mc4, rfl⟩⟩ := hcut
  cases kq with
  | zero => exact absurd HA.out (by simp [armadaref07_words.j0])
  | succ kj4 =>
   have H := HA.out
   clear HA
   simp only [armadaref07_words.j0] at H
   by_cases c8 : x21_4 = true
   ·subst c8
    have H1 : ((armadaref07_order.f (a0.size : Int) (a1.size : Int)).bind fun t316 => (some t316)) = some r := by rw [if_pos rfl] at H; exact H
    clear H
    have H := H1
    clear H1
    replace H := Option.bind_eq_some_iff.mp H
    obtain ⟨t316, A90, H⟩ := H
    replace H : (some t316) = some r := H
    have A9 := Aside0.mk A90
    clear A90
    obtain rfl := Option.some.inj H
    go_wp2_with (first | ((with_reducible refine gate_callee (f := 41) rfl ?_); refine goesL_ (some 26) rfl rfl Tryd.func41 (by kernel_rfl) rfl #[.int .i64 (a0.size : Int), .int .i64 (a1.size : Int)] rfl (by (try simp only [List.map_toArray, List.map_cons, List.map_nil]); first | done | rfl) ?_; (with_reducible refine (armadaref07_order.calls (a0.size : Int) (a1.size : Int) t316 _ A9.out).mono ?_); rintro e w' ⟨rfl, ⟨nd, rfl⟩⟩; refine ⟨_, rfl, ?_⟩) | (go_at_call 41; (with_reducible refine (armadaref07_order.calls (a0.size : Int) (a1.size : Int) t316 _ A9.out).mono ?_); rintro e w' ⟨rfl, ⟨nd, rfl⟩⟩))
    go_ret
    exact ⟨by first | rfl | (simp; done) | (simp [*]; done), by repeat (first | exact Drawn0.refl _ | apply Drawn0.step)⟩
   ·replace c8 := Bool.eq_false_iff.mpr c8
    subst c8
    have H1 : (if t314 = true then (armadaref07_words.j1 kj4 a0 a1 t314 t315 (!t315)) else (armadaref07_words.j1 kj4 a0 a1 t314 t315 false)) = some r := by rw [if_neg (show ¬ (false = true) by decide)] at H; exact H
    clear H
    have H := H1
    clear H1
    have HC10 := Aside0.mk H
    clear H
    go_upto_region 5 with (fail)
    go_cut [31] (fun v31 wc => ∃ (kq : Nat) (x31_9 : Bool), v31 = .bool x31_9 ∧ Aside0 (armadaref07_words.j1 kq a0 a1 t314 t315 x31_9 = some r) ∧ Aside0 (kq ≤ kj4) ∧ Drawn0 w wc)
    case first =>
     have H := HC10.out
     clear HC10
     by_cases c11 : t314 = true
     ·subst c11
      have H1 : (armadaref07_words.j1 kj4 a0 a1 true t315 (!t315)) = some r := by rw [if_pos rfl] at H; exact H
      clear H
      have H := H1
      clear H1
      have H' := Aside0.mk H
      clear H
      go_wp2
      go_meet
      case rel => exact ⟨_, (!t315), (by first | rfl | (simp; done) | (simp [*]; done)), H', ⟨by have := HJ4.out; first | omega | exact Nat.le_refl _⟩, by repeat (first | exact Drawn0.refl _ | apply Drawn0.step)⟩
     ·replace c11 := Bool.eq_false_iff.mpr c11
      subst c11
      have H1 : (armadaref07_words.j1 kj4 a0 a1 false t315 false) = some r := by rw [if_neg (show ¬ (false = true) by decide)] at H; exact H
      clear H
      have H := H1
      clear H1
      have H' := Aside0.mk H
      clear H
      go_wp2
      go_meet
      case rel => exact ⟨_, (false), (by first | rfl | (simp; done) | (simp [*]; done)), H', ⟨by have := HJ4.out; first | omega | exact Nat.le_refl _⟩, by repeat (first | exact Drawn0.refl _ | apply Drawn0.step)⟩
    case rest =>
     clear HC10
     (try clear c1); (try clear p2); (try clear c4); (try clear c5); (try clear c6); (try clear c7); (try clear c8); (try clear c11); (try clear p2)
     obtain ⟨kq, x31_9, rfl, HA, HJ9, ⟨mc9, rfl⟩⟩ := hcut
     cases kq with
     | zero => exact absurd HA.out (by simp [armadaref07_words.j1])
     | succ kj9 =>
      have H := HA.out
      clear HA
      simp only [armadaref07_words.j1] at H
      by_cases c12 : x31_9 = true
      ·subst c12
       have H1 : (some (-1)) = some r := by rw [if_pos rfl] at H; exact H
       clear H
       have H := H1
       clear H1
       obtain rfl := Option.some.inj H
       go_wp2
       go_ret
       exact ⟨by first | rfl | (simp; done) | (simp [*]; done), by repeat (first | exact Drawn0.refl _ | apply Drawn0.step)⟩
      ·replace c12 := Bool.eq_false_iff.mpr c12
       subst c12
       have H1 : (if t315 = true then (armadaref07_words.j2 kj9 a0 a1 (!t314)) else (armadaref07_words.j2 kj9 a0 a1 false)) = some r := by rw [if_neg (show ¬ (false = true) by decide)] at H; exact H
       clear H
       have H := H1
       clear H1
       have HC13 := Aside0.mk H
       clear H
       go_upto_region 7 with (fail)
       go_cut [36] (fun v36 wc => ∃ (kq : Nat) (x36_12 : Bool), v36 = .bool x36_12 ∧ Aside0 (armadaref07_words.j2 kq a0 a1 x36_12 = some r) ∧ Aside0 (kq ≤ kj9) ∧ Drawn0 w wc)
       case first =>
        have H := HC13.out
        clear HC13
        by_cases c14 : t315 = true
        ·subst c14
         have H1 : (armadaref07_words.j2 kj9 a0 a1 (!t314)) = some r := by rw [if_pos rfl] at H; exact H
         clear H
         have H := H1
         clear H1
         have H' := Aside0.mk H
         clear H
         go_wp2
         go_meet
         case rel => exact ⟨_, (!t314), (by first | rfl | (simp; done) | (simp [*]; done)), H', ⟨by have := HJ4.out; have := HJ9.out; first | omega | exact Nat.le_refl _⟩, by repeat (first | exact Drawn0.refl _ | apply Drawn0.step)⟩
        ·replace c14 := Bool.eq_false_iff.mpr c14
         subst c14
         have H1 : (armadaref07_words.j2 kj9 a0 a1 false) = some r := by rw [if_neg (show ¬ (false = true) by decide)] at H; exact H
         clear H
         have H := H1
         clear H1
         have H' := Aside0.mk H
         clear H
         go_wp2
         go_meet
         case rel => exact ⟨_, (false), (by first | rfl | (simp; done) | (simp [*]; done)), H', ⟨by have := HJ4.out; have := HJ9.out; first | omega | exact Nat.le_refl _⟩, by repeat (first | exact Drawn0.refl _ | apply Drawn0.step)⟩
       case rest =>
        clear HC13
        (try clear c1); (try clear p2); (try clear c4); (try clear c5); (try clear c6); (try clear c7); (try clear c8); (try clear c9); (try clear c11); (try clear c12)
        (try clear c14); (try clear p2)
        obtain ⟨kq, x36_12, rfl, HA, HJ12, ⟨mc12, rfl⟩⟩ := hcut
        cases kq with
        | zero => exact absurd HA.out (by simp [armadaref07_words.j2])
        | succ kj12 =>
         have H := HA.out
         clear HA
         simp only [armadaref07_words.j2] at H
         by_cases c15 : x36_12 = true
         ·subst c15
          have H1 : (some 1) = some r := by rw [if_pos rfl] at H; exact H
          clear H
          have H := H1
          clear H1
          obtain rfl := Option.some.inj H
          go_wp2
          go_ret
          exact ⟨by first | rfl | (simp; done) | (simp [*]; done), by repeat (first | exact Drawn0.refl _ | apply Drawn0.step)⟩
         ·replace c15 := Bool.eq_false_iff.mpr c15
          subst c15
          have H1 : (if (Op.bytesLess a0.toList a1.toList) = true then (some (-1)) else (if (Op.bytesLess a1.toList a0.toList) = true then (some 1) else (some 0))) = some r := by rw [if_neg (show ¬ (false = true) by decide)] at H; exact H
          clear H
          have H := H1
          clear H1
          by_cases c16 : (Op.bytesLess a0.toList a1.toList) = true
          ·rw [if_pos c16] at H
           have c16b0 : (Op.bytesLess a0.toList a1.toList) = true := c16
           clear c16
           obtain rfl := Option.some.inj H
           go_wp2
           go_ret
           exact ⟨by first | rfl | (simp; done) | (simp [*]; done), by repeat (first | exact Drawn0.refl _ | apply Drawn0.step)⟩
          ·rw [if_neg c16] at H
           have c16b0 : (Op.bytesLess a0.toList a1.toList) = false := by simpa using c16
           clear c16
           by_cases c17 : (Op.bytesLess a1.toList a0.toList) = true
           ·rw [if_pos c17] at H
            have c17b0 : (Op.bytesLess a1.toList a0.toList) = true := c17
            clear c17
            obtain rfl := Option.some.inj H
            go_wp2
            go_ret
            exact ⟨by first | rfl | (simp; done) | (simp [*]; done), by repeat (first | exact Drawn0.refl _ | apply Drawn0.step)⟩
           ·rw [if_neg c17] at H
            have c17b0 : (Op.bytesLess a1.toList a0.toList) = false := by simpa using c17
            clear c17
            obtain rfl := Option.some.inj H
            go_wp2
            go_ret
            exact ⟨by first | rfl | (simp; done) | (simp [*]; done), by repeat (first | exact Drawn0.refl _ | apply Drawn0.step)⟩
end
mutual
def armadaref07_pre.j0 : Nat → ByteArray → ByteArray → Bool → Option (Int)
 | 0, _, _, _ => none
 | k + 1, x0, x1, x13 => if x13 = true then ((armadaref07_one.f (x0.toList == ([] : List UInt8))).bind fun t317 => ((armadaref07_one.f (x1.toList == ([] : List UInt8))).bind fun t318 => ((armadaref07_order.f t317 t318).bind fun t319 => (some t319)))) else ((armadaref05_Split.f k x0 46).bind fun t320 => ((armadaref05_Split.f k x1 46).bind fun t323 => (armadaref07_pre.l0 k t320 t323 0)))
def armadaref07_pre.l0 : Nat → List ByteArray → List ByteArray → Int → Option (Int)
 | 0, _, _, _ => none
 | k + 1, x5, x6, x7 => if x7 < (x5.length : Int) then (armadaref07_pre.j2 k x5 x6 x7 (decide (x7 < (x6.length : Int)))) else (armadaref07_pre.j2 k x5 x6 x7 false)
def armadaref07_pre.j2 : Nat → List ByteArray → List ByteArray → Int → Bool → Option (Int)
 | 0, _, _, _, _ => none
 | k + 1, x5, x6, x7, x34 => if x34 = true then (if 0 ≤ x7 then (if x7 < (x5.length : Int) then (if x7 < (x6.length : Int) then ((armadaref07_words.f k (rdOf ByteArray.empty x5 x7) (rdOf ByteArray.empty x6 x7)).bind fun t329 => (if t329 = 0 then (armadaref07_pre.l0 k x5 x6 (wrap64 (x7 + 1))) else (some t329))) else (none)) else (none)) else (none)) else ((armadaref07_order.f (x5.length : Int) (x6.length : Int)).bind fun t326 => (some t326))
end
def armadaref07_pre.f (k : Nat) (a0 : ByteArray) (a1 : ByteArray) : Option (Int) := if a0.toList = ([] : List UInt8) then (armadaref07_pre.j0 k a0 a1 true) else (armadaref07_pre.j0 k a0 a1 (a1.toList == ([] : List UInt8)))
theorem armadaref07_pre.mono_l : ∀ k, (∀ y0 y1 y2, LeO (armadaref07_pre.j0 k y0 y1 y2) (armadaref07_pre.j0 (k + 1) y0 y1 y2)) ∧ (∀ y0 y1 y2, LeO (armadaref07_pre.l0 k y0 y1 y2) (armadaref07_pre.l0 (k + 1) y0 y1 y2)) ∧ (∀ y0 y1 y2 y3, LeO (armadaref07_pre.j2 k y0 y1 y2 y3) (armadaref07_pre.j2 (k + 1) y0 y1 y2 y3))
 | 0 => ⟨fun _ _ _ r h => by simp [armadaref07_pre.j0] at h, fun _ _ _ r h => by simp [armadaref07_pre.l0] at h, fun _ _ _ _ r h => by simp [armadaref07_pre.j2] at h⟩
 | k + 1 => by
  obtain ⟨ih0, ih1, ih2⟩ := armadaref07_pre.mono_l k
  refine ⟨?_, ?_, ?_⟩
  ·intro y0 y1 y2
   unfold armadaref07_pre.j0
   repeat' first
   | (with_reducible exact ih0 _ _ _)
   | (with_reducible exact ih1 _ _ _)
   | (with_reducible exact ih2 _ _ _ _)
   | (with_reducible exact armadaref05_Split.mono _ _ _)
   | (with_reducible exact armadaref07_words.mono _ _ _)
   | (with_reducible exact LeO.refl _)
   | (with_reducible exact LeO.none _)
   | (with_reducible refine LeO.ite ?_ ?_)
   | (with_reducible refine LeO.bind ?_ (fun _ => ?_))
   | exact ih0 _ _ _
   | exact ih1 _ _ _
   | exact ih2 _ _ _ _
   | exact armadaref05_Split.mono _ _ _
   | exact armadaref07_words.mono _ _ _
   | exact LeO.none _
   | refine LeO.ite ?_ ?_
   | refine LeO.bind ?_ (fun _ => ?_)
  ·intro y0 y1 y2
   unfold armadaref07_pre.l0
   repeat' first
   | (with_reducible exact ih0 _ _ _)
   | (with_reducible exact ih1 _ _ _)
   | (with_reducible exact ih2 _ _ _ _)
   | (with_reducible exact armadaref05_Split.mono _ _ _)
   | (with_reducible exact armadaref07_words.mono _ _ _)
   | (with_reducible exact LeO.refl _)
   | (with_reducible exact LeO.none _)
   | (with_reducible refine LeO.ite ?_ ?_)
   | (with_reducible refine LeO.bind ?_ (fun _ => ?_))
   | exact ih0 _ _ _
   | exact ih1 _ _ _
   | exact ih2 _ _ _ _
   | exact armadaref05_Split.mono _ _ _
   | exact armadaref07_words.mono _ _ _
   | exact LeO.none _
   | refine LeO.ite ?_ ?_
   | refine LeO.bind ?_ (fun _ => ?_)
  ·intro y0 y1 y2 y3
   unfold armadaref07_pre.j2
   repeat' first
   | (with_reducible exact ih0 _ _ _)
   | (with_reducible exact ih1 _ _ _)
   | (with_reducible exact ih2 _ _ _ _)
   | (with_reducible exact armadaref05_Split.mono _ _ _)
   | (with_reducible exact armadaref07_words.mono _ _ _)
   | (with_reducible exact LeO.refl _)
   | (with_reducible exact LeO.none _)
   | (with_reducible refine LeO.ite ?_ ?_)
   | (with_reducible refine LeO.bind ?_ (fun _ => ?_))
   | exact ih0 _ _ _
   | exact ih1 _ _ _
   | exact ih2 _ _ _ _
   | exact armadaref05_Split.mono _ _ _
   | exact armadaref07_words.mono _ _ _
   | exact LeO.none _
   | refine LeO.ite ?_ ?_
   | refine LeO.bind ?_ (fun _ => ?_)
theorem armadaref07_pre.mono : ∀ a0 a1 k, LeO (armadaref07_pre.f k a0 a1) (armadaref07_pre.f (k + 1) a0 a1) := by
 intro a0 a1 k
 obtain ⟨ih0, ih1, ih2⟩ := armadaref07_pre.mono_l k
 unfold armadaref07_pre.f
 repeat' first
   | (with_reducible exact ih0 _ _ _)
   | (with_reducible exact ih1 _ _ _)
   | (with_reducible exact ih2 _ _ _ _)
   | (with_reducible exact armadaref05_Split.mono _ _ _)
   | (with_reducible exact armadaref07_words.mono _ _ _)
   | (with_reducible exact LeO.refl _)
   | (with_reducible exact LeO.none _)
   | (with_reducible refine LeO.ite ?_ ?_)
   | (with_reducible refine LeO.bind ?_ (fun _ => ?_))
   | exact ih0 _ _ _
   | exact ih1 _ _ _
   | exact ih2 _ _ _ _
   | exact armadaref05_Split.mono _ _ _
   | exact armadaref07_words.mono _ _ _
   | exact LeO.none _
   | refine LeO.ite ?_ ?_
   | refine LeO.bind ?_ (fun _ => ?_)
set_option maxHeartbeats 8000000 in
set_option maxRecDepth 100000 in
theorem armadaref07_pre.calls (k : Nat) (a0 : ByteArray) (a1 : ByteArray) (r : Int) (w : World) (h : armadaref07_pre.f k a0 a1 = some r) :
  Calls Tryd.prog 42 #[.string a0, .string a1] w fun e w' => e = .returned (.int .i64 r) ∧ Below w.heap.size w w' := by
 have HB := Aside0.mk (Below.refl w.heap.size w)
 have H : (if a0.toList = ([] : List UInt8) then (armadaref07_pre.j0 k a0 a1 true) else (armadaref07_pre.j0 k a0 a1 (a1.toList == ([] : List UInt8)))) = some r := h
 clear h
 have HC3 := Aside0.mk H
 clear H
 go_enter Tryd.func42, Tryd.ntmps42
 go_upto_region 1 with (fail)
 repeat (go_quiet (fail); go_upto_region 1 with (fail))
 go_cut [13] (fun v13 wc => ∃ (kq : Nat) (x13_2 : Bool), v13 = .bool x13_2 ∧ Aside0 (armadaref07_pre.j0 kq a0 a1 x13_2 = some r) ∧ Aside0 (kq ≤ k) ∧ Aside0 (Below w.heap.size w wc))
 case first =>
  have H := HC3.out
  clear HC3
  by_cases c4 : a0.toList = ([] : List UInt8)
  ·rw [if_pos c4] at H
   have c4b0 : (a0.toList == ([] : List UInt8)) = true := beq_iff_eq.mpr c4
   have c4b1 : (a0.toList != ([] : List UInt8)) = false := bne_eq_false_iff_eq.mpr c4
   clear c4
   (first | rw [c4b0] | (simp only [i64_w, i32_w]; rw [c4b0]) | skip)
   have H' := Aside0.mk H
   clear H
   go_wp2
   repeat (go_quiet (fail); try go_wp2)
   go_meet
   case rel => exact ⟨_, (true), (by first | rfl | (simp; done) | (simp [*]; done)), H', ⟨by first | omega | exact Nat.le_refl _⟩, ⟨by repeat (first | (with_reducible first | exact HB.out | apply yA_ | apply yN_ | apply yD_) | exact HB.out)⟩⟩
  ·rw [if_neg c4] at H
   have c4b0 : (a0.toList == ([] : List UInt8)) = false := beq_eq_false_iff_ne.mpr c4
   have c4b1 : (a0.toList != ([] : List UInt8)) = true := bne_iff_ne.mpr c4
   (first | rw [c4b0] | (simp only [i64_w, i32_w]; rw [c4b0]) | skip)
   have H' := Aside0.mk H
   clear H
   go_wp2
   repeat (go_quiet (fail); try go_wp2)
   go_meet
   case rel => exact ⟨_, ((a1.toList == ([] : List UInt8))), (by first | rfl | (simp; done) | (simp [*]; done)), H', ⟨by first | omega | exact Nat.le_refl _⟩, ⟨by repeat (first | (with_reducible first | exact HB.out | apply yA_ | apply yN_ | apply yD_) | exact HB.out)⟩⟩
 case rest =>
  clear HC3
  (try clear p2); (try clear c4); (try clear c4b0); (try clear c4b1)
  obtain ⟨kq, x13_2, rfl, HA, HJ2, HB⟩ := hcut
  cases kq with
  | zero => exact absurd HA.out (by simp [armadaref07_pre.j0])
  | succ kj2 =>
   have H := HA.out
   clear HA
   simp only [armadaref07_pre.j0] at H
   by_cases c5 : x13_2 = true
   ·subst c5
    have H1 : ((armadaref07_one.f (a0.toList == ([] : List UInt8))).bind fun t317 => ((armadaref07_one.f (a1.toList == ([] : List UInt8))).bind fun t318 => ((armadaref07_order.f t317 t318).bind fun t319 => (some t319)))) = some r := by rw [if_pos rfl] at H; exact H
    clear H
    have H := H1
    clear H1
    replace H := Option.bind_eq_some_iff.mp H
    obtain ⟨t317, A60, H⟩ := H
    replace H : ((armadaref07_one.f (a1.toList == ([] : List UInt8))).bind fun t318 => ((armadaref07_order.f t317 t318).bind fun t319 => (some t319))) = some r := H
    have A6 := Aside0.mk A60
    clear A60
    replace H := Option.bind_eq_some_iff.mp H
    obtain ⟨t318, A70, H⟩ := H
    replace H : ((armadaref07_order.f t317 t318).bind fun t319 => (some t319)) = some r := H
    have A7 := Aside0.mk A70
    clear A70
    replace H := Option.bind_eq_some_iff.mp H
    obtain ⟨t319, A80, H⟩ := H
    replace H : (some t319) = some r := H
    have A8 := Aside0.mk A80
    clear A80
    obtain rfl := Option.some.inj H
    go_wp2_with (first | (go_at_call 56; (with_reducible refine (armadaref07_one.calls (a0.toList.isEmpty) t317 _ (beq_nil a0.toList ▸ A6.out)).mono ?_); rintro e w' ⟨rfl, ⟨nd, rfl⟩⟩; (try first | exact ⟨rfl, _, World.drewN_drewN _ _ _⟩ | exact ⟨rfl, _, Eq.trans (World.drewN_drewN _ _ _) (congrArg (World.drewN _) (Nat.add_assoc _ _ _))⟩)) | (go_at_call 56; (with_reducible refine (armadaref07_one.calls (a1.toList.isEmpty) t318 _ (beq_nil a1.toList ▸ A7.out)).mono ?_); rintro e w' ⟨rfl, ⟨nd, rfl⟩⟩; (try first | exact ⟨rfl, _, World.drewN_drewN _ _ _⟩ | exact ⟨rfl, _, Eq.trans (World.drewN_drewN _ _ _) (congrArg (World.drewN _) (Nat.add_assoc _ _ _))⟩)) | (go_at_call 41; (with_reducible refine (armadaref07_order.calls t317 t318 t319 _ A8.out).mono ?_); rintro e w' ⟨rfl, ⟨nd, rfl⟩⟩; (try first | exact ⟨rfl, _, World.drewN_drewN _ _ _⟩ | exact ⟨rfl, _, Eq.trans (World.drewN_drewN _ _ _) (congrArg (World.drewN _) (Nat.add_assoc _ _ _))⟩)))
    repeat (go_quiet (first | (go_at_call 56; (with_reducible refine (armadaref07_one.calls (a0.toList.isEmpty) t317 _ (beq_nil a0.toList ▸ A6.out)).mono ?_); rintro e w' ⟨rfl, ⟨nd, rfl⟩⟩; (try first | exact ⟨rfl, _, World.drewN_drewN _ _ _⟩ | exact ⟨rfl, _, Eq.trans (World.drewN_drewN _ _ _) (congrArg (World.drewN _) (Nat.add_assoc _ _ _))⟩)) | (go_at_call 56; (with_reducible refine (armadaref07_one.calls (a1.toList.isEmpty) t318 _ (beq_nil a1.toList ▸ A7.out)).mono ?_); rintro e w' ⟨rfl, ⟨nd, rfl⟩⟩; (try first | exact ⟨rfl, _, World.drewN_drewN _ _ _⟩ | exact ⟨rfl, _, Eq.trans (World.drewN_drewN _ _ _) (congrArg (World.drewN _) (Nat.add_assoc _ _ _))⟩)) | (go_at_call 41; (with_reducible refine (armadaref07_order.calls t317 t318 t319 _ A8.out).mono ?_); rintro e w' ⟨rfl, ⟨nd, rfl⟩⟩; (try first | exact ⟨rfl, _, World.drewN_drewN _ _ _⟩ | exact ⟨rfl, _, Eq.trans (World.drewN_drewN _ _ _) (congrArg (World.drewN _) (Nat.add_assoc _ _ _))⟩))); try go_wp2_with (first | (go_at_call 56; (with_reducible refine (armadaref07_one.calls (a0.toList.isEmpty) t317 _ (beq_nil a0.toList ▸ A6.out)).mono ?_); rintro e w' ⟨rfl, ⟨nd, rfl⟩⟩; (try first | exact ⟨rfl, _, World.drewN_drewN _ _ _⟩ | exact ⟨rfl, _, Eq.trans (World.drewN_drewN _ _ _) (congrArg (World.drewN _) (Nat.add_assoc _ _ _))⟩)) | (go_at_call 56; (with_reducible refine (armadaref07_one.calls (a1.toList.isEmpty) t318 _ (beq_nil a1.toList ▸ A7.out)).mono ?_); rintro e w' ⟨rfl, ⟨nd, rfl⟩⟩; (try first | exact ⟨rfl, _, World.drewN_drewN _ _ _⟩ | exact ⟨rfl, _, Eq.trans (World.drewN_drewN _ _ _) (congrArg (World.drewN _) (Nat.add_assoc _ _ _))⟩)) | (go_at_call 41; (with_reducible refine (armadaref07_order.calls t317 t318 t319 _ A8.out).mono ?_); rintro e w' ⟨rfl, ⟨nd, rfl⟩⟩; (try first | exact ⟨rfl, _, World.drewN_drewN _ _ _⟩ | exact ⟨rfl, _, Eq.trans (World.drewN_drewN _ _ _) (congrArg (World.drewN _) (Nat.add_assoc _ _ _))⟩))))
    go_ret
    exact ⟨by first | rfl | (simp [errW_none, errW_some] <;> rfl) | (simp [*, errW_none, errW_some] <;> rfl), by repeat (first | (with_reducible first | exact HB.out | apply yA_ | apply yN_ | apply yD_) | exact HB.out)⟩
   ·replace c5 := Bool.eq_false_iff.mpr c5
    subst c5
    have H1 : ((armadaref05_Split.f kj2 a0 46).bind fun t320 => ((armadaref05_Split.f kj2 a1 46).bind fun t323 => (armadaref07_pre.l0 kj2 t320 t323 0))) = some r := by rw [if_neg (show ¬ (false = true) by decide)] at H; exact H
    clear H
    have H := H1
    clear H1
    replace H := Option.bind_eq_some_iff.mp H
    obtain ⟨t320, A90, H⟩ := H
    replace H : ((armadaref05_Split.f kj2 a1 46).bind fun t323 => (armadaref07_pre.l0 kj2 t320 t323 0)) = some r := H
    have A9 := Aside0.mk A90
    clear A90
    replace H := Option.bind_eq_some_iff.mp H
    obtain ⟨t323, A100, H⟩ := H
    replace H : (armadaref07_pre.l0 kj2 t320 t323 0) = some r := H
    have A10 := Aside0.mk A100
    clear A100
    have H' := Aside0.mk H
    clear H
    go_wp2_with (first | (go_at_call 28; (with_reducible refine (armadaref05_Split.calls kj2 a0 46 t320 _ A9.out).mono ?_); rintro e w11 ⟨v321, rfl, ho0, hb⟩; have n0_ := Aside0.mk (Kd.R_lower ho0 (below_size (by repeat (first | (with_reducible first | exact HB.out | apply yA_ | apply yN_ | apply yD_) | exact HB.out)))); have n1_ := Aside0.mk (below_step (by repeat (first | (with_reducible first | exact HB.out | apply yA_ | apply yN_ | apply yD_) | exact HB.out)) hb); clear HB; have HO322 := n0_; have HB := n1_; clear n0_ n1_; (try clear hb); (try clear hb2); (try clear hk); (try clear hi); (try clear ho0)) | (go_at_call 28; (with_reducible refine (armadaref05_Split.calls kj2 a1 46 t323 _ A10.out).mono ?_); rintro e w12 ⟨v324, rfl, ho0, hb⟩; have n0_ := Aside0.mk (Kd.R_elder' (by (with_reducible repeat (first | apply Kd.R_alloc | apply Kd.R_drewN | apply Kd.R_drew)); exact HO322.out) (Kd.R_base ho0) hb); have n1_ := Aside0.mk (Kd.R_lower (Kd.R_new' ho0 (Kd.R_lt (by (with_reducible repeat (first | apply Kd.R_alloc | apply Kd.R_drewN | apply Kd.R_drew)); exact HO322.out))) (below_size (by repeat (first | (with_reducible first | exact HB.out | apply yA_ | apply yN_ | apply yD_) | exact HB.out)))); have n2_ := Aside0.mk (below_step (by repeat (first | (with_reducible first | exact HB.out | apply yA_ | apply yN_ | apply yD_) | exact HB.out)) hb); clear HO322; clear HB; have HO322 := n0_; have HO325 := n1_; have HB := n2_; clear n0_ n1_ n2_; (try clear hb); (try clear hb2); (try clear hk); (try clear hi); (try clear ho0)))
    repeat (go_quiet (first | (go_at_call 28; (with_reducible refine (armadaref05_Split.calls kj2 a0 46 t320 _ A9.out).mono ?_); rintro e w11 ⟨v321, rfl, ho0, hb⟩; have n0_ := Aside0.mk (Kd.R_lower ho0 (below_size (by repeat (first | (with_reducible first | exact HB.out | apply yA_ | apply yN_ | apply yD_) | exact HB.out)))); have n1_ := Aside0.mk (below_step (by repeat (first | (with_reducible first | exact HB.out | apply yA_ | apply yN_ | apply yD_) | exact HB.out)) hb); clear HB; have HO322 := n0_; have HB := n1_; clear n0_ n1_; (try clear hb); (try clear hb2); (try clear hk); (try clear hi); (try clear ho0)) | (go_at_call 28; (with_reducible refine (armadaref05_Split.calls kj2 a1 46 t323 _ A10.out).mono ?_); rintro e w12 ⟨v324, rfl, ho0, hb⟩; have n0_ := Aside0.mk (Kd.R_elder' (by (with_reducible repeat (first | apply Kd.R_alloc | apply Kd.R_drewN | apply Kd.R_drew)); exact HO322.out) (Kd.R_base ho0) hb); have n1_ := Aside0.mk (Kd.R_lower (Kd.R_new' ho0 (Kd.R_lt (by (with_reducible repeat (first | apply Kd.R_alloc | apply Kd.R_drewN | apply Kd.R_drew)); exact HO322.out))) (below_size (by repeat (first | (with_reducible first | exact HB.out | apply yA_ | apply yN_ | apply yD_) | exact HB.out)))); have n2_ := Aside0.mk (below_step (by repeat (first | (with_reducible first | exact HB.out | apply yA_ | apply yN_ | apply yD_) | exact HB.out)) hb); clear HO322; clear HB; have HO322 := n0_; have HO325 := n1_; have HB := n2_; clear n0_ n1_ n2_; (try clear hb); (try clear hb2); (try clear hk); (try clear hi); (try clear ho0))); try go_wp2_with (first | (go_at_call 28; (with_reducible refine (armadaref05_Split.calls kj2 a0 46 t320 _ A9.out).mono ?_); rintro e w11 ⟨v321, rfl, ho0, hb⟩; have n0_ := Aside0.mk (Kd.R_lower ho0 (below_size (by repeat (first | (with_reducible first | exact HB.out | apply yA_ | apply yN_ | apply yD_) | exact HB.out)))); have n1_ := Aside0.mk (below_step (by repeat (first | (with_reducible first | exact HB.out | apply yA_ | apply yN_ | apply yD_) | exact HB.out)) hb); clear HB; have HO322 := n0_; have HB := n1_; clear n0_ n1_; (try clear hb); (try clear hb2); (try clear hk); (try clear hi); (try clear ho0)) | (go_at_call 28; (with_reducible refine (armadaref05_Split.calls kj2 a1 46 t323 _ A10.out).mono ?_); rintro e w12 ⟨v324, rfl, ho0, hb⟩; have n0_ := Aside0.mk (Kd.R_elder' (by (with_reducible repeat (first | apply Kd.R_alloc | apply Kd.R_drewN | apply Kd.R_drew)); exact HO322.out) (Kd.R_base ho0) hb); have n1_ := Aside0.mk (Kd.R_lower (Kd.R_new' ho0 (Kd.R_lt (by (with_reducible repeat (first | apply Kd.R_alloc | apply Kd.R_drewN | apply Kd.R_drew)); exact HO322.out))) (below_size (by repeat (first | (with_reducible first | exact HB.out | apply yA_ | apply yN_ | apply yD_) | exact HB.out)))); have n2_ := Aside0.mk (below_step (by repeat (first | (with_reducible first | exact HB.out | apply yA_ | apply yN_ | apply yD_) | exact HB.out)) hb); clear HO322; clear HB; have HO322 := n0_; have HO325 := n1_; have HB := n2_; clear n0_ n1_ n2_; (try clear hb); (try clear hb2); (try clear hk); (try clear hi); (try clear ho0))))
    go_loopg [7] kj2 (fun kq v7 w' => ∃ (x7_2 : Int), v7 = .int .i64 x7_2 ∧ Aside0 (armadaref07_pre.l0 kq t320 t323 x7_2 = some r) ∧ Aside0 (kq ≤ kj2) ∧ Aside0 (Kd.R Kd.string 9 w' w.heap.size (fun k_ => some k_ ≠ (v324 : Value).ownBlock) v321 t320) ∧ Aside0 (Kd.R Kd.string 9 w' w.heap.size (fun k_ => some k_ ≠ (v321 : Value).ownBlock) v324 t323) ∧ Aside0 (Below w.heap.size w w'))
    case atStart => exact ⟨(0), (by first | rfl | (simp; done) | (simp [*]; done)), H', ⟨Nat.le_refl _⟩, ⟨by (with_reducible repeat (first | apply Kd.R_alloc | apply Kd.R_drewN | apply Kd.R_drew)); exact Kd.R_mono HO322.out (fun _ hk => hk.2)⟩, ⟨by (with_reducible repeat (first | apply Kd.R_alloc | apply Kd.R_drewN | apply Kd.R_drew)); exact Kd.R_mono HO325.out (fun _ hk => hk.2)⟩, ⟨by repeat (first | (with_reducible first | exact HB.out | apply yA_ | apply yN_ | apply yD_) | exact HB.out)⟩⟩
    case round =>
     clear H'
     (try clear p2); (try clear c4); (try clear c4b0); (try clear c4b1); (try clear c5); (try clear p2)
     obtain ⟨x7_2, rfl, HA, HK2, HO_5, HO_6, HB⟩ := hrel
     cases gk with
     | zero => exact absurd HA.out (by simp [armadaref07_pre.l0])
     | succ k2 =>
      have H := HA.out
      clear HA
      simp only [armadaref07_pre.l0] at H
      have HC13 := Aside0.mk H
      clear H
      go_upto_region 6 with (fail)
      repeat (go_quiet (fail); go_upto_region 6 with (fail))
      go_cut [34] (fun v34 wc => ∃ (kq : Nat) (x34_12 : Bool), v34 = .bool x34_12 ∧ Aside0 (armadaref07_pre.j2 kq t320 t323 x7_2 x34_12 = some r) ∧ Aside0 (kq ≤ k2) ∧ Aside0 (Kd.R Kd.string 9 wc w.heap.size (fun k_ => some k_ ≠ (v324 : Value).ownBlock) v321 t320) ∧ Aside0 (Kd.R Kd.string 9 wc w.heap.size (fun k_ => some k_ ≠ (v321 : Value).ownBlock) v324 t323) ∧ Aside0 (Below w.heap.size w wc))
      case first =>
       have H := HC13.out
       clear HC13
       by_cases c14 : x7_2 < (t320.length : Int)
       ·rw [if_pos c14] at H
        have c14b0 : decide (x7_2 < (t320.length : Int)) = true := decide_eq_true c14
        clear c14
        (first | rw [c14b0] | (simp only [i64_w, i32_w]; rw [c14b0]) | skip)
        have H' := Aside0.mk H
        clear H
        obtain ⟨Ao15, co15, eo15⟩ := Kd.R_slice HO_5.out
        subst eo15
        obtain ⟨Ao16, co16, eo16⟩ := Kd.R_slice HO_6.out
        subst eo16
        go_wp2
        repeat (go_quiet (fail); try go_wp2)
        go_meet
        case rel => exact ⟨_, (decide (x7_2 < (t323.length : Int))), (by first | rfl | (simp; done) | (simp [*]; done)), H', ⟨by have := HJ2.out; have := HK2.out; first | omega | exact Nat.le_refl _⟩, ⟨by (with_reducible repeat (first | apply Kd.R_alloc | apply Kd.R_drewN | apply Kd.R_drew)); exact HO_5.out⟩, ⟨by (with_reducible repeat (first | apply Kd.R_alloc | apply Kd.R_drewN | apply Kd.R_drew)); exact HO_6.out⟩, ⟨by repeat (first | (with_reducible first | exact HB.out | apply yA_ | apply yN_ | apply yD_) | exact HB.out)⟩⟩
       ·rw [if_neg c14] at H
        have c14b0 : decide (x7_2 < (t320.length : Int)) = false := decide_eq_false c14
        clear c14
        (first | rw [c14b0] | (simp only [i64_w, i32_w]; rw [c14b0]) | skip)
        have H' := Aside0.mk H
        clear H
        obtain ⟨Ao17, co17, eo17⟩ := Kd.R_slice HO_5.out
        subst eo17
        go_wp2
        repeat (go_quiet (fail); try go_wp2)
        go_meet
        case rel => exact ⟨_, (false), (by first | rfl | (simp; done) | (simp [*]; done)), H', ⟨by have := HJ2.out; have := HK2.out; first | omega | exact Nat.le_refl _⟩, ⟨by (with_reducible repeat (first | apply Kd.R_alloc | apply Kd.R_drewN | apply Kd.R_drew)); exact HO_5.out⟩, ⟨by (with_reducible repeat (first | apply Kd.R_alloc | apply Kd.R_drewN | apply Kd.R_drew)); exact HO_6.out⟩, ⟨by repeat (first | (with_reducible first | exact HB.out | apply yA_ | apply yN_ | apply yD_) | exact HB.out)⟩⟩
      case rest =>
       clear HC13
       (try clear c1); (try clear p2); (try clear c4); (try clear c4b0); (try clear c4b1); (try clear c5); (try clear c14); (try clear c14b0); (try clear p2)
       obtain ⟨kq, x34_12, rfl, HA, HJ12, HO_5, HO_6, HB⟩ := hcut
       cases kq with
       | zero => exact absurd HA.out (by simp [armadaref07_pre.j2])
       | succ kj12 =>
        have H := HA.out
        clear HA
        simp only [armadaref07_pre.j2] at H
        by_cases c18 : x34_12 = true
        ·subst c18
         have H1 : (if 0 ≤ x7_2 then (if x7_2 < (t320.length : Int) then (if x7_2 < (t323.length : Int) then ((armadaref07_words.f kj12 (rdOf ByteArray.empty t320 x7_2) (rdOf ByteArray.empty t323 x7_2)).bind fun t329 => (if t329 = 0 then (armadaref07_pre.l0 kj12 t320 t323 (wrap64 (x7_2 + 1))) else (some t329))) else (none)) else (none)) else (none)) = some r := by rw [if_pos rfl] at H; exact H
         clear H
         have H := H1
         clear H1
         by_cases c19 : 0 ≤ x7_2
         ·rw [if_pos c19] at H
          have c19b0 : decide (0 ≤ x7_2) = true := decide_eq_true c19
          clear c19
          by_cases c20 : x7_2 < (t320.length : Int)
          ·rw [if_pos c20] at H
           have c20b0 : decide (x7_2 < (t320.length : Int)) = true := decide_eq_true c20
           clear c20
           by_cases c21 : x7_2 < (t323.length : Int)
           ·rw [if_pos c21] at H
            have c21b0 : decide (x7_2 < (t323.length : Int)) = true := decide_eq_true c21
            clear c21
            replace H := Option.bind_eq_some_iff.mp H
            obtain ⟨t329, A220, H⟩ := H
            replace H : (if t329 = 0 then (armadaref07_pre.l0 kj12 t320 t323 (wrap64 (x7_2 + 1))) else (some t329)) = some r := H
            have A22 := Aside0.mk A220
            clear A220
            by_cases c23 : t329 = 0
            ·rw [if_pos c23] at H
             have c23b0 : (t329 == 0) = true := beq_iff_eq.mpr c23
             have c23b1 : (t329 != 0) = false := bne_eq_false_iff_eq.mpr c23
             clear c23
             have H' := Aside0.mk H
             clear H
             obtain ⟨Ao24, co24, eo24⟩ := Kd.R_slice HO_5.out
             subst eo24
             have p327 : 0 ≤ (x7_2 : Int) := of_decide_eq_true (by first | (with_reducible assumption) | assumption)
             have q327 : x7_2 < (t320.length : Int) := of_decide_eq_true (by first | (with_reducible assumption) | assumption)
             obtain ⟨ad327, e327, hx327_0⟩ := Kd.at_string (Kd.R_reads' HO_5.out).2.2 x7_2 p327 q327
             cases e327
             replace p327 := eq_true p327
             replace q327 := eq_true q327
             obtain ⟨Ao25, co25, eo25⟩ := Kd.R_slice HO_6.out
             subst eo25
             have p328 : 0 ≤ (x7_2 : Int) := of_decide_eq_true (by first | (with_reducible assumption) | assumption)
             have q328 : x7_2 < (t323.length : Int) := of_decide_eq_true (by first | (with_reducible assumption) | assumption)
             obtain ⟨ad328, e328, hx328_0⟩ := Kd.at_string (Kd.R_reads' HO_6.out).2.2 x7_2 p328 q328
             cases e328
             replace p328 := eq_true p328
             replace q328 := eq_true q328
             go_wp2_with (first | (go_at_call 57; (with_reducible refine (armadaref07_words.calls kj12 (rdOf ByteArray.empty t320 x7_2) (rdOf ByteArray.empty t323 x7_2) t329 _ A22.out).mono ?_); rintro e w' ⟨rfl, ⟨nd, rfl⟩⟩; (try first | exact ⟨rfl, _, World.drewN_drewN _ _ _⟩ | exact ⟨rfl, _, Eq.trans (World.drewN_drewN _ _ _) (congrArg (World.drewN _) (Nat.add_assoc _ _ _))⟩)))
             repeat (go_quiet (first | (go_at_call 57; (with_reducible refine (armadaref07_words.calls kj12 (rdOf ByteArray.empty t320 x7_2) (rdOf ByteArray.empty t323 x7_2) t329 _ A22.out).mono ?_); rintro e w' ⟨rfl, ⟨nd, rfl⟩⟩; (try first | exact ⟨rfl, _, World.drewN_drewN _ _ _⟩ | exact ⟨rfl, _, Eq.trans (World.drewN_drewN _ _ _) (congrArg (World.drewN _) (Nat.add_assoc _ _ _))⟩))); try go_wp2_with (first | (go_at_call 57; (with_reducible refine (armadaref07_words.calls kj12 (rdOf ByteArray.empty t320 x7_2) (rdOf ByteArray.empty t323 x7_2) t329 _ A22.out).mono ?_); rintro e w' ⟨rfl, ⟨nd, rfl⟩⟩; (try first | exact ⟨rfl, _, World.drewN_drewN _ _ _⟩ | exact ⟨rfl, _, Eq.trans (World.drewN_drewN _ _ _) (congrArg (World.drewN _) (Nat.add_assoc _ _ _))⟩))))
             go_roundg kj12
             case measure => have := HJ2.out; have := HK2.out; have := HJ12.out; omega
             case rel => exact ⟨(wrap64 (x7_2 + 1)), (by first | rfl | (simp; done) | (simp [*]; done)), H', ⟨by have := HJ2.out; have := HK2.out; have := HJ12.out; omega⟩, ⟨by (with_reducible repeat (first | apply Kd.R_alloc | apply Kd.R_drewN | apply Kd.R_drew)); exact HO_5.out⟩, ⟨by (with_reducible repeat (first | apply Kd.R_alloc | apply Kd.R_drewN | apply Kd.R_drew)); exact HO_6.out⟩, ⟨by repeat (first | (with_reducible first | exact HB.out | apply yA_ | apply yN_ | apply yD_) | exact HB.out)⟩⟩
            ·rw [if_neg c23] at H
             have c23b0 : (t329 == 0) = false := beq_eq_false_iff_ne.mpr c23
             have c23b1 : (t329 != 0) = true := bne_iff_ne.mpr c23
             obtain rfl := Option.some.inj H
             obtain ⟨Ao26, co26, eo26⟩ := Kd.R_slice HO_5.out
             subst eo26
             have p327 : 0 ≤ (x7_2 : Int) := of_decide_eq_true (by first | (with_reducible assumption) | assumption)
             have q327 : x7_2 < (t320.length : Int) := of_decide_eq_true (by first | (with_reducible assumption) | assumption)
             obtain ⟨ad327, e327, hx327_0⟩ := Kd.at_string (Kd.R_reads' HO_5.out).2.2 x7_2 p327 q327
             cases e327
             replace p327 := eq_true p327
             replace q327 := eq_true q327
             obtain ⟨Ao27, co27, eo27⟩ := Kd.R_slice HO_6.out
             subst eo27
             have p328 : 0 ≤ (x7_2 : Int) := of_decide_eq_true (by first | (with_reducible assumption) | assumption)
             have q328 : x7_2 < (t323.length : Int) := of_decide_eq_true (by first | (with_reducible assumption) | assumption)
             obtain ⟨ad328, e328, hx328_0⟩ := Kd.at_string (Kd.R_reads' HO_6.out).2.2 x7_2 p328 q328
             cases e328
             replace p328 := eq_true p328
             replace q328 := eq_true q328
             go_wp2_with (first | (go_at_call 57; (with_reducible refine (armadaref07_words.calls kj12 (rdOf ByteArray.empty t320 x7_2) (rdOf ByteArray.empty t323 x7_2) t329 _ A22.out).mono ?_); rintro e w' ⟨rfl, ⟨nd, rfl⟩⟩; (try first | exact ⟨rfl, _, World.drewN_drewN _ _ _⟩ | exact ⟨rfl, _, Eq.trans (World.drewN_drewN _ _ _) (congrArg (World.drewN _) (Nat.add_assoc _ _ _))⟩); have p330 : 0 ≤ (x7_2 : Int) := of_decide_eq_true (by first | (with_reducible assumption) | assumption); have q330 : x7_2 < (t320.length : Int) := of_decide_eq_true (by first | (with_reducible assumption) | assumption); obtain ⟨ad330, e330, hx330_0⟩ := Kd.at_string (Kd.R_reads' HO_5.out).2.2 x7_2 p330 q330; obtain rfl : ad327 = ad330 := (by injection e330); replace p330 := eq_true p330; replace q330 := eq_true q330; have p331 : 0 ≤ (x7_2 : Int) := of_decide_eq_true (by first | (with_reducible assumption) | assumption); have q331 : x7_2 < (t323.length : Int) := of_decide_eq_true (by first | (with_reducible assumption) | assumption); obtain ⟨ad331, e331, hx331_0⟩ := Kd.at_string (Kd.R_reads' HO_6.out).2.2 x7_2 p331 q331; obtain rfl : ad328 = ad331 := (by injection e331); replace p331 := eq_true p331; replace q331 := eq_true q331))
             repeat (go_quiet (first | (go_at_call 57; (with_reducible refine (armadaref07_words.calls kj12 (rdOf ByteArray.empty t320 x7_2) (rdOf ByteArray.empty t323 x7_2) t329 _ A22.out).mono ?_); rintro e w' ⟨rfl, ⟨nd, rfl⟩⟩; (try first | exact ⟨rfl, _, World.drewN_drewN _ _ _⟩ | exact ⟨rfl, _, Eq.trans (World.drewN_drewN _ _ _) (congrArg (World.drewN _) (Nat.add_assoc _ _ _))⟩); have p330 : 0 ≤ (x7_2 : Int) := of_decide_eq_true (by first | (with_reducible assumption) | assumption); have q330 : x7_2 < (t320.length : Int) := of_decide_eq_true (by first | (with_reducible assumption) | assumption); obtain ⟨ad330, e330, hx330_0⟩ := Kd.at_string (Kd.R_reads' HO_5.out).2.2 x7_2 p330 q330; obtain rfl : ad327 = ad330 := (by injection e330); replace p330 := eq_true p330; replace q330 := eq_true q330; have p331 : 0 ≤ (x7_2 : Int) := of_decide_eq_true (by first | (with_reducible assumption) | assumption); have q331 : x7_2 < (t323.length : Int) := of_decide_eq_true (by first | (with_reducible assumption) | assumption); obtain ⟨ad331, e331, hx331_0⟩ := Kd.at_string (Kd.R_reads' HO_6.out).2.2 x7_2 p331 q331; obtain rfl : ad328 = ad331 := (by injection e331); replace p331 := eq_true p331; replace q331 := eq_true q331)); try go_wp2_with (first | (go_at_call 57; (with_reducible refine (armadaref07_words.calls kj12 (rdOf ByteArray.empty t320 x7_2) (rdOf ByteArray.empty t323 x7_2) t329 _ A22.out).mono ?_); rintro e w' ⟨rfl, ⟨nd, rfl⟩⟩; (try first | exact ⟨rfl, _, World.drewN_drewN _ _ _⟩ | exact ⟨rfl, _, Eq.trans (World.drewN_drewN _ _ _) (congrArg (World.drewN _) (Nat.add_assoc _ _ _))⟩); have p330 : 0 ≤ (x7_2 : Int) := of_decide_eq_true (by first | (with_reducible assumption) | assumption); have q330 : x7_2 < (t320.length : Int) := of_decide_eq_true (by first | (with_reducible assumption) | assumption); obtain ⟨ad330, e330, hx330_0⟩ := Kd.at_string (Kd.R_reads' HO_5.out).2.2 x7_2 p330 q330; obtain rfl : ad327 = ad330 := (by injection e330); replace p330 := eq_true p330; replace q330 := eq_true q330; have p331 : 0 ≤ (x7_2 : Int) := of_decide_eq_true (by first | (with_reducible assumption) | assumption); have q331 : x7_2 < (t323.length : Int) := of_decide_eq_true (by first | (with_reducible assumption) | assumption); obtain ⟨ad331, e331, hx331_0⟩ := Kd.at_string (Kd.R_reads' HO_6.out).2.2 x7_2 p331 q331; obtain rfl : ad328 = ad331 := (by injection e331); replace p331 := eq_true p331; replace q331 := eq_true q331)))
             go_ret
             exact ⟨by first | rfl | (simp [errW_none, errW_some] <;> rfl) | (simp [*, errW_none, errW_some] <;> rfl), by repeat (first | (with_reducible first | exact HB.out | apply yA_ | apply yN_ | apply yD_) | exact HB.out)⟩
           ·rw [if_neg c21] at H
            exact absurd H (by simp)
          ·rw [if_neg c20] at H
           exact absurd H (by simp)
         ·rw [if_neg c19] at H
          exact absurd H (by simp)
        ·replace c18 := Bool.eq_false_iff.mpr c18
         subst c18
         have H1 : ((armadaref07_order.f (t320.length : Int) (t323.length : Int)).bind fun t326 => (some t326)) = some r := by rw [if_neg (show ¬ (false = true) by decide)] at H; exact H
         clear H
         have H := H1
         clear H1
         replace H := Option.bind_eq_some_iff.mp H
         obtain ⟨t326, A280, H⟩ := H
         replace H : (some t326) = some r := H
         have A28 := Aside0.mk A280
         clear A280
         obtain rfl := Option.some.inj H
         obtain ⟨Ao29, co29, eo29⟩ := Kd.R_slice HO_5.out
         subst eo29
         obtain ⟨Ao30, co30, eo30⟩ := Kd.R_slice HO_6.out
         subst eo30
         go_wp2_with (first | (go_at_call 41; (with_reducible refine (armadaref07_order.calls (t320.length : Int) (t323.length : Int) t326 _ A28.out).mono ?_); rintro e w' ⟨rfl, ⟨nd, rfl⟩⟩; (try first | exact ⟨rfl, _, World.drewN_drewN _ _ _⟩ | exact ⟨rfl, _, Eq.trans (World.drewN_drewN _ _ _) (congrArg (World.drewN _) (Nat.add_assoc _ _ _))⟩)))
         repeat (go_quiet (first | (go_at_call 41; (with_reducible refine (armadaref07_order.calls (t320.length : Int) (t323.length : Int) t326 _ A28.out).mono ?_); rintro e w' ⟨rfl, ⟨nd, rfl⟩⟩; (try first | exact ⟨rfl, _, World.drewN_drewN _ _ _⟩ | exact ⟨rfl, _, Eq.trans (World.drewN_drewN _ _ _) (congrArg (World.drewN _) (Nat.add_assoc _ _ _))⟩))); try go_wp2_with (first | (go_at_call 41; (with_reducible refine (armadaref07_order.calls (t320.length : Int) (t323.length : Int) t326 _ A28.out).mono ?_); rintro e w' ⟨rfl, ⟨nd, rfl⟩⟩; (try first | exact ⟨rfl, _, World.drewN_drewN _ _ _⟩ | exact ⟨rfl, _, Eq.trans (World.drewN_drewN _ _ _) (congrArg (World.drewN _) (Nat.add_assoc _ _ _))⟩))))
         go_ret
         exact ⟨by first | rfl | (simp [errW_none, errW_some] <;> rfl) | (simp [*, errW_none, errW_some] <;> rfl), by repeat (first | (with_reducible first | exact HB.out | apply yA_ | apply yN_ | apply yD_) | exact HB.out)⟩
def armadaref07_Compare.j0 : Nat → Bool → Int → Int → Int → ByteArray → ByteArray → Int → Int → Int → ByteArray → ByteArray → Option (Int)
 | 0, _, _, _, _, _, _, _, _, _, _, _ => none
 | k + 1, x12, x333000, x333001, x333002, x333003, x333004, x334000, x334001, x334002, x334003, x334004 => if x12 = true then (some 0) else (if x333000 = x334000 then (if x333001 = x334001 then (if x333002 = x334002 then ((armadaref07_pre.f k x333003 x334003).bind fun t338 => (some t338)) else ((armadaref07_order.f x333002 x334002).bind fun t339 => (some t339))) else ((armadaref07_order.f x333001 x334001).bind fun t337 => (some t337))) else ((armadaref07_order.f x333000 x334000).bind fun t336 => (some t336)))
def armadaref07_Compare.f (k : Nat) (a0_0 : Int) (a0_1 : Int) (a0_2 : Int) (a0_3 : ByteArray) (a0_4 : ByteArray) (a1_0 : Int) (a1_1 : Int) (a1_2 : Int) (a1_3 : ByteArray) (a1_4 : ByteArray) : Option (Int) := (armadaref07_Check.f k a0_0 a0_1 a0_2 a0_3 a0_4).bind fun t334 => (if t334 = true then ((armadaref07_Check.f k a1_0 a1_1 a1_2 a1_3 a1_4).bind fun t335 => (armadaref07_Compare.j0 k (!t335) a0_0 a0_1 a0_2 a0_3 a0_4 a1_0 a1_1 a1_2 a1_3 a1_4)) else (armadaref07_Compare.j0 k true a0_0 a0_1 a0_2 a0_3 a0_4 a1_0 a1_1 a1_2 a1_3 a1_4))
theorem armadaref07_Compare.mono_l : ∀ k, (∀ y0 y1 y2 y3 y4 y5 y6 y7 y8 y9 y10, LeO (armadaref07_Compare.j0 k y0 y1 y2 y3 y4 y5 y6 y7 y8 y9 y10) (armadaref07_Compare.j0 (k + 1) y0 y1 y2 y3 y4 y5 y6 y7 y8 y9 y10))
 | 0 => fun _ _ _ _ _ _ _ _ _ _ _ r h => by simp [armadaref07_Compare.j0] at h
 | k + 1 => by
  have ih0 := armadaref07_Compare.mono_l k
  ·intro y0 y1 y2 y3 y4 y5 y6 y7 y8 y9 y10
   unfold armadaref07_Compare.j0
   repeat' first
   | (with_reducible exact ih0 _ _ _ _ _ _ _ _ _ _ _)
   | (with_reducible exact armadaref07_Check.mono _ _ _ _ _ _)
   | (with_reducible exact armadaref07_pre.mono _ _ _)
   | (with_reducible exact LeO.refl _)
   | (with_reducible exact LeO.none _)
   | (with_reducible refine LeO.ite ?_ ?_)
   | (with_reducible refine LeO.bind ?_ (fun _ => ?_))
   | exact ih0 _ _ _ _ _ _ _ _ _ _ _
   | exact armadaref07_Check.mono _ _ _ _ _ _
   | exact armadaref07_pre.mono _ _ _
   | exact LeO.none _
   | refine LeO.ite ?_ ?_
   | refine LeO.bind ?_ (fun _ => ?_)
theorem armadaref07_Compare.mono : ∀ a0 a1 a2 a3 a4 a5 a6 a7 a8 a9 k, LeO (armadaref07_Compare.f k a0 a1 a2 a3 a4 a5 a6 a7 a8 a9) (armadaref07_Compare.f (k + 1) a0 a1 a2 a3 a4 a5 a6 a7 a8 a9) := by
 intro a0 a1 a2 a3 a4 a5 a6 a7 a8 a9 k
 have ih0 := armadaref07_Compare.mono_l k
 unfold armadaref07_Compare.f
 repeat' first
   | (with_reducible exact ih0 _ _ _ _ _ _ _ _ _ _ _)
   | (with_reducible exact armadaref07_Check.mono _ _ _ _ _ _)
   | (with_reducible exact armadaref07_pre.mono _ _ _)
   | (with_reducible exact LeO.refl _)
   | (with_reducible exact LeO.none _)
   | (with_reducible refine LeO.ite ?_ ?_)
   | (with_reducible refine LeO.bind ?_ (fun _ => ?_))
   | exact ih0 _ _ _ _ _ _ _ _ _ _ _
   | exact armadaref07_Check.mono _ _ _ _ _ _
   | exact armadaref07_pre.mono _ _ _
   | exact LeO.none _
   | refine LeO.ite ?_ ?_
   | refine LeO.bind ?_ (fun _ => ?_)
set_option maxHeartbeats 8000000 in
set_option maxRecDepth 100000 in
theorem armadaref07_Compare.calls (k : Nat) (a0_0 : Int) (a0_1 : Int) (a0_2 : Int) (a0_3 : ByteArray) (a0_4 : ByteArray) (a1_0 : Int) (a1_1 : Int) (a1_2 : Int) (a1_3 : ByteArray) (a1_4 : ByteArray) (r : Int) (w : World) (h : armadaref07_Compare.f k a0_0 a0_1 a0_2 a0_3 a0_4 a1_0 a1_1 a1_2 a1_3 a1_4 = some r) :
  Calls Tryd.prog 20 #[.agg #[.int .i64 a0_0, .int .i64 a0_1, .int .i64 a0_2, .string a0_3, .string a0_4], .agg #[.int .i64 a1_0, .int .i64 a1_1, .int .i64 a1_2, .string a1_3, .string a1_4]] w fun e w' => e = .returned (.int .i64 r) ∧ Below w.heap.size w w' := by
 have hu23 := Tryd.underlying23
 have HB := Aside0.mk (Below.refl w.heap.size w)
 have H : ((armadaref07_Check.f k a0_0 a0_1 a0_2 a0_3 a0_4).bind fun t334 => (if t334 = true then ((armadaref07_Check.f k a1_0 a1_1 a1_2 a1_3 a1_4).bind fun t335 => (armadaref07_Compare.j0 k (!t335) a0_0 a0_1 a0_2 a0_3 a0_4 a1_0 a1_1 a1_2 a1_3 a1_4)) else (armadaref07_Compare.j0 k true a0_0 a0_1 a0_2 a0_3 a0_4 a1_0 a1_1 a1_2 a1_3 a1_4))) = some r := h
 clear h
 have HC3 := Aside0.mk H
 clear H
 go_enter Tryd.func20, Tryd.ntmps20
 go_upto_region 1 with (first | ((with_reducible refine gate_dst (N := 2) rfl ?_); refine box_event ?hg (N := 2) ?hd (cs := #[.int .i64 a0_0, .int .i64 a0_1, .int .i64 a0_2, .string a0_3, .string a0_4]) (t := 23) ?hr ?_; (case hd => rfl); (case hg => rfl); (case hr => first | (go_simp; done) | (go_simp; rfl)); intro gb332 hg w4 hbox hb; have n0_ := Aside0.mk (below_step (by repeat (first | (with_reducible first | exact HB.out | apply yA_ | apply yN_ | apply yD_) | exact HB.out)) hb); have n1_ := Aside0.mk (hbox); have n2_ := Aside0.mk ((by rw [hg]; exact (below_size (by repeat (first | (with_reducible first | exact HB.out | apply yA_ | apply yN_ | apply yD_) | exact HB.out))) : w.heap.size ≤ gb332)); have n3_ := Aside0.mk ((by rw [hg]; exact (below_size (by repeat (first | (with_reducible first | exact HB.out | apply yA_ | apply yN_ | apply yD_) | exact HB.out))) : w.heap.size ≤ gb332)); clear HB; have HB := n0_; have BK332 := n1_; have GW332 := n2_; have GE332 := n3_; clear n0_ n1_ n2_ n3_; clear hb hbox hg) | ((with_reducible refine gate_dst (N := 3) rfl ?_); refine box_event ?hg (N := 3) ?hd (cs := #[.int .i64 a1_0, .int .i64 a1_1, .int .i64 a1_2, .string a1_3, .string a1_4]) (t := 23) ?hr ?_; (case hd => rfl); (case hg => rfl); (case hr => first | (go_simp; done) | (go_simp; rfl)); intro gb333 hg w5 hbox hb; have n0_ := Aside0.mk (blk_below (g := gb332) (o := .cells #[.int .i64 a0_0, .int .i64 a0_1, .int .i64 a0_2, .string a0_3, .string a0_4] 23 (0, 0)) (by (with_reducible repeat (first | apply xN_ | apply xD_ | apply xA_)); exact BK332.out) hb); have n1_ := Aside0.mk (below_step (by repeat (first | (with_reducible first | exact HB.out | apply yA_ | apply yN_ | apply yD_ | refine yS_ ?_ GE332.out) | exact HB.out)) hb); have n2_ := Aside0.mk (hbox); have n3_ := Aside0.mk ((by rw [hg]; exact (below_size (by repeat (first | (with_reducible first | exact HB.out | apply yA_ | apply yN_ | apply yD_ | refine yS_ ?_ GE332.out) | exact HB.out))) : w.heap.size ≤ gb333)); have n4_ := Aside0.mk ((by rw [hg]; exact (below_size (by repeat (first | (with_reducible first | exact HB.out | apply yA_ | apply yN_ | apply yD_ | refine yS_ ?_ GE332.out) | exact HB.out))) : w.heap.size ≤ gb333)); have n5_ := Aside0.mk ((by rw [hg]; exact Nat.ne_of_lt (blk_lt (g := gb332) (o := .cells #[.int .i64 a0_0, .int .i64 a0_1, .int .i64 a0_2, .string a0_3, .string a0_4] 23 (0, 0)) (by (with_reducible repeat (first | apply xN_ | apply xD_ | apply xA_)); exact BK332.out)) : gb332 ≠ gb333)); have n6_ := Aside0.mk ((by rw [hg]; exact Nat.ne_of_gt (blk_lt (g := gb332) (o := .cells #[.int .i64 a0_0, .int .i64 a0_1, .int .i64 a0_2, .string a0_3, .string a0_4] 23 (0, 0)) (by (with_reducible repeat (first | apply xN_ | apply xD_ | apply xA_)); exact BK332.out)) : gb333 ≠ gb332)); clear BK332; clear HB; have BK332 := n0_; have HB := n1_; have BK333 := n2_; have GW333 := n3_; have GE333 := n4_; have NB332_333 := n5_; have NB333_332 := n6_; clear n0_ n1_ n2_ n3_ n4_ n5_ n6_; clear hb hbox hg))
 (try simp only [Act.put, List.setIfInBounds_toArray, List.set_cons_zero, List.set_cons_succ])
 go_cut [12] (fun v12 wc => ∃ (kq : Nat) (x12_2 : Bool), v12 = .bool x12_2 ∧ Aside0 (armadaref07_Compare.j0 kq x12_2 a0_0 a0_1 a0_2 a0_3 a0_4 a1_0 a1_1 a1_2 a1_3 a1_4 = some r) ∧ Aside0 (kq ≤ k) ∧ Aside0 (wc.heap[gb332]? = some (.cells #[.int .i64 a0_0, .int .i64 a0_1, .int .i64 a0_2, .string a0_3, .string a0_4] 23 (0, 0))) ∧ Aside0 (wc.heap[gb333]? = some (.cells #[.int .i64 a1_0, .int .i64 a1_1, .int .i64 a1_2, .string a1_3, .string a1_4] 23 (0, 0))) ∧ Aside0 (Below w.heap.size w wc))
 case first =>
  have H := HC3.out
  clear HC3
  replace H := Option.bind_eq_some_iff.mp H
  obtain ⟨t334, A60, H⟩ := H
  replace H : (if t334 = true then ((armadaref07_Check.f k a1_0 a1_1 a1_2 a1_3 a1_4).bind fun t335 => (armadaref07_Compare.j0 k (!t335) a0_0 a0_1 a0_2 a0_3 a0_4 a1_0 a1_1 a1_2 a1_3 a1_4)) else (armadaref07_Compare.j0 k true a0_0 a0_1 a0_2 a0_3 a0_4 a1_0 a1_1 a1_2 a1_3 a1_4)) = some r := H
  have A6 := Aside0.mk A60
  clear A60
  by_cases c7 : t334 = true
  ·subst c7
   have H1 : ((armadaref07_Check.f k a1_0 a1_1 a1_2 a1_3 a1_4).bind fun t335 => (armadaref07_Compare.j0 k (!t335) a0_0 a0_1 a0_2 a0_3 a0_4 a1_0 a1_1 a1_2 a1_3 a1_4)) = some r := by rw [if_pos rfl] at H; exact H
   clear H
   have H := H1
   clear H1
   replace H := Option.bind_eq_some_iff.mp H
   obtain ⟨t335, A80, H⟩ := H
   replace H : (armadaref07_Compare.j0 k (!t335) a0_0 a0_1 a0_2 a0_3 a0_4 a1_0 a1_1 a1_2 a1_3 a1_4) = some r := H
   have A8 := Aside0.mk A80
   clear A80
   have H' := Aside0.mk H
   clear H
   have hnb9 := NB332_333.out
   have hnc9 := NB333_332.out
   have hcz10_0 : w5.cell? ⟨gb332, 0, none⟩ = some (.int .i64 a0_0) := (xC_ BK332.out 0).trans rfl
   have hcz10_1 : w5.cell? ⟨gb332, 1, none⟩ = some (.int .i64 a0_1) := (xC_ BK332.out 1).trans rfl
   have hcz10_2 : w5.cell? ⟨gb332, 2, none⟩ = some (.int .i64 a0_2) := (xC_ BK332.out 2).trans rfl
   have hcz10_3 : w5.cell? ⟨gb332, 3, none⟩ = some (.string a0_3) := (xC_ BK332.out 3).trans rfl
   have hcz10_4 : w5.cell? ⟨gb332, 4, none⟩ = some (.string a0_4) := (xC_ BK332.out 4).trans rfl
   have hfz10_0 := xF_ BK332.out 0
   have hfz10_1 := xF_ BK332.out 1
   have hfz10_2 := xF_ BK332.out 2
   have hfz10_3 := xF_ BK332.out 3
   have hfz10_4 := xF_ BK332.out 4
   go_wp2_with (first | ((with_reducible refine gate_callee (f := 14) rfl ?_); refine goesL_ (some 6) rfl rfl Tryd.func14 (by kernel_rfl) rfl #[.agg #[.int .i64 a0_0, .int .i64 a0_1, .int .i64 a0_2, .string a0_3, .string a0_4]] rfl (by (try simp only [List.map_toArray, List.map_cons, List.map_nil]); first | done | rfl) ?_; (with_reducible refine (armadaref07_Check.calls k a0_0 a0_1 a0_2 a0_3 a0_4 true _ A6.out).mono ?_); rintro e w11 ⟨rfl, hb⟩; refine ⟨_, rfl, ?_⟩; have n0_ := Aside0.mk (blk_below (g := gb332) (o := .cells #[.int .i64 a0_0, .int .i64 a0_1, .int .i64 a0_2, .string a0_3, .string a0_4] 23 (0, 0)) (by (with_reducible repeat (first | apply xN_ | apply xD_ | apply xA_)); exact BK332.out) hb); have n1_ := Aside0.mk (blk_below (g := gb333) (o := .cells #[.int .i64 a1_0, .int .i64 a1_1, .int .i64 a1_2, .string a1_3, .string a1_4] 23 (0, 0)) (by (with_reducible repeat (first | apply xN_ | apply xD_ | apply xA_)); exact BK333.out) hb); have n2_ := Aside0.mk (below_step (by repeat (first | (with_reducible first | exact HB.out | apply yA_ | apply yN_ | apply yD_ | refine yS_ ?_ GE332.out | refine yS_ ?_ GE333.out) | exact HB.out)) hb); clear BK332; clear BK333; clear HB; have BK332 := n0_; have BK333 := n1_; have HB := n2_; clear n0_ n1_ n2_; (try clear hb); (try clear hb2); (try clear hk); (try clear hi); have hcz12_0 : w11.cell? ⟨gb333, 0, none⟩ = some (.int .i64 a1_0) := (xC_ BK333.out 0).trans rfl; have hcz12_1 : w11.cell? ⟨gb333, 1, none⟩ = some (.int .i64 a1_1) := (xC_ BK333.out 1).trans rfl; have hcz12_2 : w11.cell? ⟨gb333, 2, none⟩ = some (.int .i64 a1_2) := (xC_ BK333.out 2).trans rfl; have hcz12_3 : w11.cell? ⟨gb333, 3, none⟩ = some (.string a1_3) := (xC_ BK333.out 3).trans rfl; have hcz12_4 : w11.cell? ⟨gb333, 4, none⟩ = some (.string a1_4) := (xC_ BK333.out 4).trans rfl; have hfz12_0 := xF_ BK333.out 0; have hfz12_1 := xF_ BK333.out 1; have hfz12_2 := xF_ BK333.out 2; have hfz12_3 := xF_ BK333.out 3; have hfz12_4 := xF_ BK333.out 4) | (go_at_call 14; (with_reducible refine (armadaref07_Check.calls k a1_0 a1_1 a1_2 a1_3 a1_4 t335 _ A8.out).mono ?_); rintro e w13 ⟨rfl, hb⟩; have n0_ := Aside0.mk (blk_below (g := gb332) (o := .cells #[.int .i64 a0_0, .int .i64 a0_1, .int .i64 a0_2, .string a0_3, .string a0_4] 23 (0, 0)) (by (with_reducible repeat (first | apply xN_ | apply xD_ | apply xA_)); exact BK332.out) hb); have n1_ := Aside0.mk (blk_below (g := gb333) (o := .cells #[.int .i64 a1_0, .int .i64 a1_1, .int .i64 a1_2, .string a1_3, .string a1_4] 23 (0, 0)) (by (with_reducible repeat (first | apply xN_ | apply xD_ | apply xA_)); exact BK333.out) hb); have n2_ := Aside0.mk (below_step (by repeat (first | (with_reducible first | exact HB.out | apply yA_ | apply yN_ | apply yD_ | refine yS_ ?_ GE332.out | refine yS_ ?_ GE333.out) | exact HB.out)) hb); clear BK332; clear BK333; clear HB; have BK332 := n0_; have BK333 := n1_; have HB := n2_; clear n0_ n1_ n2_; (try clear hb); (try clear hb2); (try clear hk); (try clear hi)))
   go_meet
   case rel => exact ⟨_, (!t335), (by first | rfl | (simp; done) | (simp [*]; done)), H', ⟨by first | omega | exact Nat.le_refl _⟩, ⟨by (with_reducible repeat (first | apply xN_ | apply xD_ | apply xA_)); exact BK332.out⟩, ⟨by (with_reducible repeat (first | apply xN_ | apply xD_ | apply xA_)); exact BK333.out⟩, ⟨by repeat (first | (with_reducible first | exact HB.out | apply yA_ | apply yN_ | apply yD_ | refine yS_ ?_ GE332.out | refine yS_ ?_ GE333.out) | exact HB.out)⟩⟩
  ·replace c7 := Bool.eq_false_iff.mpr c7
   subst c7
   have H1 : (armadaref07_Compare.j0 k true a0_0 a0_1 a0_2 a0_3 a0_4 a1_0 a1_1 a1_2 a1_3 a1_4) = some r := by rw [if_neg (show ¬ (false = true) by decide)] at H; exact H
   clear H
   have H := H1
   clear H1
   have H' := Aside0.mk H
   clear H
   have hnb14 := NB332_333.out
   have hnc14 := NB333_332.out
   have hcz15_0 : w5.cell? ⟨gb332, 0, none⟩ = some (.int .i64 a0_0) := (xC_ BK332.out 0).trans rfl
   have hcz15_1 : w5.cell? ⟨gb332, 1, none⟩ = some (.int .i64 a0_1) := (xC_ BK332.out 1).trans rfl
   have hcz15_2 : w5.cell? ⟨gb332, 2, none⟩ = some (.int .i64 a0_2) := (xC_ BK332.out 2).trans rfl
   have hcz15_3 : w5.cell? ⟨gb332, 3, none⟩ = some (.string a0_3) := (xC_ BK332.out 3).trans rfl
   have hcz15_4 : w5.cell? ⟨gb332, 4, none⟩ = some (.string a0_4) := (xC_ BK332.out 4).trans rfl
   have hfz15_0 := xF_ BK332.out 0
   have hfz15_1 := xF_ BK332.out 1
   have hfz15_2 := xF_ BK332.out 2
   have hfz15_3 := xF_ BK332.out 3
   have hfz15_4 := xF_ BK332.out 4
   go_wp2_with (first | ((with_reducible refine gate_callee (f := 14) rfl ?_); refine goesL_ (some 6) rfl rfl Tryd.func14 (by kernel_rfl) rfl #[.agg #[.int .i64 a0_0, .int .i64 a0_1, .int .i64 a0_2, .string a0_3, .string a0_4]] rfl (by (try simp only [List.map_toArray, List.map_cons, List.map_nil]); first | done | rfl) ?_; (with_reducible refine (armadaref07_Check.calls k a0_0 a0_1 a0_2 a0_3 a0_4 false _ A6.out).mono ?_); rintro e w16 ⟨rfl, hb⟩; refine ⟨_, rfl, ?_⟩; have n0_ := Aside0.mk (blk_below (g := gb332) (o := .cells #[.int .i64 a0_0, .int .i64 a0_1, .int .i64 a0_2, .string a0_3, .string a0_4] 23 (0, 0)) (by (with_reducible repeat (first | apply xN_ | apply xD_ | apply xA_)); exact BK332.out) hb); have n1_ := Aside0.mk (blk_below (g := gb333) (o := .cells #[.int .i64 a1_0, .int .i64 a1_1, .int .i64 a1_2, .string a1_3, .string a1_4] 23 (0, 0)) (by (with_reducible repeat (first | apply xN_ | apply xD_ | apply xA_)); exact BK333.out) hb); have n2_ := Aside0.mk (below_step (by repeat (first | (with_reducible first | exact HB.out | apply yA_ | apply yN_ | apply yD_ | refine yS_ ?_ GE332.out | refine yS_ ?_ GE333.out) | exact HB.out)) hb); clear BK332; clear BK333; clear HB; have BK332 := n0_; have BK333 := n1_; have HB := n2_; clear n0_ n1_ n2_; (try clear hb); (try clear hb2); (try clear hk); (try clear hi)))
   go_meet
   case rel => exact ⟨_, (true), (by first | rfl | (simp; done) | (simp [*]; done)), H', ⟨by first | omega | exact Nat.le_refl _⟩, ⟨by (with_reducible repeat (first | apply xN_ | apply xD_ | apply xA_)); exact BK332.out⟩, ⟨by (with_reducible repeat (first | apply xN_ | apply xD_ | apply xA_)); exact BK333.out⟩, ⟨by repeat (first | (with_reducible first | exact HB.out | apply yA_ | apply yN_ | apply yD_ | refine yS_ ?_ GE332.out | refine yS_ ?_ GE333.out) | exact HB.out)⟩⟩
 case rest =>
  clear HC3
  (try clear c1); (try clear c2); (try clear p2); (try clear c7); (try clear c9); (try clear c14); (try clear hcz10_0); (try clear hcz10_1); (try clear hcz10_2)
  (try clear hcz10_3); (try clear hcz10_4); (try clear hcz12_0); (try clear hcz12_1); (try clear hcz12_2); (try clear hcz12_3); (try clear hcz12_4); (try clear hcz15_0)
  (try clear hcz15_1); (try clear hcz15_2); (try clear hcz15_3); (try clear hcz15_4); (try clear hfz10_0); (try clear hfz10_1); (try clear hfz10_2); (try clear hfz10_3)
  (try clear hfz10_4); (try clear hfz12_0); (try clear hfz12_1); (try clear hfz12_2); (try clear hfz12_3); (try clear hfz12_4); (try clear hfz15_0); (try clear hfz15_1)
  (try clear hfz15_2); (try clear hfz15_3); (try clear hfz15_4)
  obtain ⟨kq, x12_2, rfl, HA, HJ2, BK332, BK333, HB⟩ := hcut
  cases kq with
  | zero => exact absurd HA.out (by simp [armadaref07_Compare.j0])
  | succ kj2 =>
   have H := HA.out
   clear HA
   simp only [armadaref07_Compare.j0] at H
   by_cases c17 : x12_2 = true
   ·subst c17
    have H1 : (some 0) = some r := by rw [if_pos rfl] at H; exact H
    clear H
    have H := H1
    clear H1
    obtain rfl := Option.some.inj H
    go_wp2
    go_ret
    exact ⟨by first | rfl | (simp [errW_none, errW_some] <;> rfl) | (simp [*, errW_none, errW_some] <;> rfl), by repeat (first | (with_reducible first | exact HB.out | apply yA_ | apply yN_ | apply yD_ | refine yS_ ?_ GE332.out | refine yS_ ?_ GE333.out) | exact HB.out)⟩
   ·replace c17 := Bool.eq_false_iff.mpr c17
    subst c17
    have H1 : (if a0_0 = a1_0 then (if a0_1 = a1_1 then (if a0_2 = a1_2 then ((armadaref07_pre.f kj2 a0_3 a1_3).bind fun t338 => (some t338)) else ((armadaref07_order.f a0_2 a1_2).bind fun t339 => (some t339))) else ((armadaref07_order.f a0_1 a1_1).bind fun t337 => (some t337))) else ((armadaref07_order.f a0_0 a1_0).bind fun t336 => (some t336))) = some r := by rw [if_neg (show ¬ (false = true) by decide)] at H; exact H
    clear H
    have H := H1
    clear H1
    by_cases c18 : a0_0 = a1_0
    ·rw [if_pos c18] at H
     have c18b0 : (a0_0 == a1_0) = true := beq_iff_eq.mpr c18
     have c18b1 : (a0_0 != a1_0) = false := bne_eq_false_iff_eq.mpr c18
     clear c18
     by_cases c19 : a0_1 = a1_1
     ·rw [if_pos c19] at H
      have c19b0 : (a0_1 == a1_1) = true := beq_iff_eq.mpr c19
      have c19b1 : (a0_1 != a1_1) = false := bne_eq_false_iff_eq.mpr c19
      clear c19
      by_cases c20 : a0_2 = a1_2
      ·rw [if_pos c20] at H
       have c20b0 : (a0_2 == a1_2) = true := beq_iff_eq.mpr c20
       have c20b1 : (a0_2 != a1_2) = false := bne_eq_false_iff_eq.mpr c20
       clear c20
       replace H := Option.bind_eq_some_iff.mp H
       obtain ⟨t338, A210, H⟩ := H
       replace H : (some t338) = some r := H
       have A21 := Aside0.mk A210
       clear A210
       obtain rfl := Option.some.inj H
       have hnb22 := NB332_333.out
       have hnc22 := NB333_332.out
       have hcz23_0 : wc.cell? ⟨gb332, 0, none⟩ = some (.int .i64 a0_0) := (xC_ BK332.out 0).trans rfl
       have hcz23_1 : wc.cell? ⟨gb332, 1, none⟩ = some (.int .i64 a0_1) := (xC_ BK332.out 1).trans rfl
       have hcz23_2 : wc.cell? ⟨gb332, 2, none⟩ = some (.int .i64 a0_2) := (xC_ BK332.out 2).trans rfl
       have hcz23_3 : wc.cell? ⟨gb332, 3, none⟩ = some (.string a0_3) := (xC_ BK332.out 3).trans rfl
       have hcz23_4 : wc.cell? ⟨gb332, 4, none⟩ = some (.string a0_4) := (xC_ BK332.out 4).trans rfl
       have hfz23_0 := xF_ BK332.out 0
       have hfz23_1 := xF_ BK332.out 1
       have hfz23_2 := xF_ BK332.out 2
       have hfz23_3 := xF_ BK332.out 3
       have hfz23_4 := xF_ BK332.out 4
       have hcz24_0 : wc.cell? ⟨gb333, 0, none⟩ = some (.int .i64 a1_0) := (xC_ BK333.out 0).trans rfl
       have hcz24_1 : wc.cell? ⟨gb333, 1, none⟩ = some (.int .i64 a1_1) := (xC_ BK333.out 1).trans rfl
       have hcz24_2 : wc.cell? ⟨gb333, 2, none⟩ = some (.int .i64 a1_2) := (xC_ BK333.out 2).trans rfl
       have hcz24_3 : wc.cell? ⟨gb333, 3, none⟩ = some (.string a1_3) := (xC_ BK333.out 3).trans rfl
       have hcz24_4 : wc.cell? ⟨gb333, 4, none⟩ = some (.string a1_4) := (xC_ BK333.out 4).trans rfl
       have hfz24_0 := xF_ BK333.out 0
       have hfz24_1 := xF_ BK333.out 1
       have hfz24_2 := xF_ BK333.out 2
       have hfz24_3 := xF_ BK333.out 3
       have hfz24_4 := xF_ BK333.out 4
       go_wp2_with (first | ((with_reducible refine gate_callee (f := 42) rfl ?_); refine goesL_ (some 47) rfl rfl Tryd.func42 (by kernel_rfl) rfl #[.string a0_3, .string a1_3] rfl (by (try simp only [List.map_toArray, List.map_cons, List.map_nil]); first | done | rfl) ?_; (with_reducible refine (armadaref07_pre.calls kj2 a0_3 a1_3 t338 _ A21.out).mono ?_); rintro e w25 ⟨rfl, hb⟩; refine ⟨_, rfl, ?_⟩; have n0_ := Aside0.mk (blk_below (g := gb332) (o := .cells #[.int .i64 a0_0, .int .i64 a0_1, .int .i64 a0_2, .string a0_3, .string a0_4] 23 (0, 0)) (by (with_reducible repeat (first | apply xN_ | apply xD_ | apply xA_)); exact BK332.out) hb); have n1_ := Aside0.mk (blk_below (g := gb333) (o := .cells #[.int .i64 a1_0, .int .i64 a1_1, .int .i64 a1_2, .string a1_3, .string a1_4] 23 (0, 0)) (by (with_reducible repeat (first | apply xN_ | apply xD_ | apply xA_)); exact BK333.out) hb); have n2_ := Aside0.mk (below_step (by repeat (first | (with_reducible first | exact HB.out | apply yA_ | apply yN_ | apply yD_ | refine yS_ ?_ GE332.out | refine yS_ ?_ GE333.out) | exact HB.out)) hb); clear BK332; clear BK333; clear HB; have BK332 := n0_; have BK333 := n1_; have HB := n2_; clear n0_ n1_ n2_; (try clear hb); (try clear hb2); (try clear hk); (try clear hi)))
       go_ret
       exact ⟨by first | rfl | (simp [errW_none, errW_some] <;> rfl) | (simp [*, errW_none, errW_some] <;> rfl), by repeat (first | (with_reducible first | exact HB.out | apply yA_ | apply yN_ | apply yD_ | refine yS_ ?_ GE332.out | refine yS_ ?_ GE333.out) | exact HB.out)⟩
      ·rw [if_neg c20] at H
       have c20b0 : (a0_2 == a1_2) = false := beq_eq_false_iff_ne.mpr c20
       have c20b1 : (a0_2 != a1_2) = true := bne_iff_ne.mpr c20
       replace H := Option.bind_eq_some_iff.mp H
       obtain ⟨t339, A260, H⟩ := H
       replace H : (some t339) = some r := H
       have A26 := Aside0.mk A260
       clear A260
       obtain rfl := Option.some.inj H
       have hnb27 := NB332_333.out
       have hnc27 := NB333_332.out
       have hcz28_0 : wc.cell? ⟨gb332, 0, none⟩ = some (.int .i64 a0_0) := (xC_ BK332.out 0).trans rfl
       have hcz28_1 : wc.cell? ⟨gb332, 1, none⟩ = some (.int .i64 a0_1) := (xC_ BK332.out 1).trans rfl
       have hcz28_2 : wc.cell? ⟨gb332, 2, none⟩ = some (.int .i64 a0_2) := (xC_ BK332.out 2).trans rfl
       have hcz28_3 : wc.cell? ⟨gb332, 3, none⟩ = some (.string a0_3) := (xC_ BK332.out 3).trans rfl
       have hcz28_4 : wc.cell? ⟨gb332, 4, none⟩ = some (.string a0_4) := (xC_ BK332.out 4).trans rfl
       have hfz28_0 := xF_ BK332.out 0
       have hfz28_1 := xF_ BK332.out 1
       have hfz28_2 := xF_ BK332.out 2
       have hfz28_3 := xF_ BK332.out 3
       have hfz28_4 := xF_ BK332.out 4
       have hcz29_0 : wc.cell? ⟨gb333, 0, none⟩ = some (.int .i64 a1_0) := (xC_ BK333.out 0).trans rfl
       have hcz29_1 : wc.cell? ⟨gb333, 1, none⟩ = some (.int .i64 a1_1) := (xC_ BK333.out 1).trans rfl
       have hcz29_2 : wc.cell? ⟨gb333, 2, none⟩ = some (.int .i64 a1_2) := (xC_ BK333.out 2).trans rfl
       have hcz29_3 : wc.cell? ⟨gb333, 3, none⟩ = some (.string a1_3) := (xC_ BK333.out 3).trans rfl
       have hcz29_4 : wc.cell? ⟨gb333, 4, none⟩ = some (.string a1_4) := (xC_ BK333.out 4).trans rfl
       have hfz29_0 := xF_ BK333.out 0
       have hfz29_1 := xF_ BK333.out 1
       have hfz29_2 := xF_ BK333.out 2
       have hfz29_3 := xF_ BK333.out 3
       have hfz29_4 := xF_ BK333.out 4
       go_wp2_with (first | ((with_reducible refine gate_callee (f := 41) rfl ?_); refine goesL_ (some 42) rfl rfl Tryd.func41 (by kernel_rfl) rfl #[.int .i64 a0_2, .int .i64 a1_2] rfl (by (try simp only [List.map_toArray, List.map_cons, List.map_nil]); first | done | rfl) ?_; (with_reducible refine (armadaref07_order.calls a0_2 a1_2 t339 _ A26.out).mono ?_); rintro e w' ⟨rfl, ⟨nd, rfl⟩⟩; refine ⟨_, rfl, ?_⟩) | (go_at_call 41; (with_reducible refine (armadaref07_order.calls a0_2 a1_2 t339 _ A26.out).mono ?_); rintro e w' ⟨rfl, ⟨nd, rfl⟩⟩))
       go_ret
       exact ⟨by first | rfl | (simp [errW_none, errW_some] <;> rfl) | (simp [*, errW_none, errW_some] <;> rfl), by repeat (first | (with_reducible first | exact HB.out | apply yA_ | apply yN_ | apply yD_ | refine yS_ ?_ GE332.out | refine yS_ ?_ GE333.out) | exact HB.out)⟩
     ·rw [if_neg c19] at H
      have c19b0 : (a0_1 == a1_1) = false := beq_eq_false_iff_ne.mpr c19
      have c19b1 : (a0_1 != a1_1) = true := bne_iff_ne.mpr c19
      replace H := Option.bind_eq_some_iff.mp H
      obtain ⟨t337, A300, H⟩ := H
      replace H : (some t337) = some r := H
      have A30 := Aside0.mk A300
      clear A300
      obtain rfl := Option.some.inj H
      have hnb31 := NB332_333.out
      have hnc31 := NB333_332.out
      have hcz32_0 : wc.cell? ⟨gb332, 0, none⟩ = some (.int .i64 a0_0) := (xC_ BK332.out 0).trans rfl
      have hcz32_1 : wc.cell? ⟨gb332, 1, none⟩ = some (.int .i64 a0_1) := (xC_ BK332.out 1).trans rfl
      have hcz32_2 : wc.cell? ⟨gb332, 2, none⟩ = some (.int .i64 a0_2) := (xC_ BK332.out 2).trans rfl
      have hcz32_3 : wc.cell? ⟨gb332, 3, none⟩ = some (.string a0_3) := (xC_ BK332.out 3).trans rfl
      have hcz32_4 : wc.cell? ⟨gb332, 4, none⟩ = some (.string a0_4) := (xC_ BK332.out 4).trans rfl
      have hfz32_0 := xF_ BK332.out 0
      have hfz32_1 := xF_ BK332.out 1
      have hfz32_2 := xF_ BK332.out 2
      have hfz32_3 := xF_ BK332.out 3
      have hfz32_4 := xF_ BK332.out 4
      have hcz33_0 : wc.cell? ⟨gb333, 0, none⟩ = some (.int .i64 a1_0) := (xC_ BK333.out 0).trans rfl
      have hcz33_1 : wc.cell? ⟨gb333, 1, none⟩ = some (.int .i64 a1_1) := (xC_ BK333.out 1).trans rfl
      have hcz33_2 : wc.cell? ⟨gb333, 2, none⟩ = some (.int .i64 a1_2) := (xC_ BK333.out 2).trans rfl
      have hcz33_3 : wc.cell? ⟨gb333, 3, none⟩ = some (.string a1_3) := (xC_ BK333.out 3).trans rfl
      have hcz33_4 : wc.cell? ⟨gb333, 4, none⟩ = some (.string a1_4) := (xC_ BK333.out 4).trans rfl
      have hfz33_0 := xF_ BK333.out 0
      have hfz33_1 := xF_ BK333.out 1
      have hfz33_2 := xF_ BK333.out 2
      have hfz33_3 := xF_ BK333.out 3
      have hfz33_4 := xF_ BK333.out 4
      go_wp2_with (first | ((with_reducible refine gate_callee (f := 41) rfl ?_); refine goesL_ (some 32) rfl rfl Tryd.func41 (by kernel_rfl) rfl #[.int .i64 a0_1, .int .i64 a1_1] rfl (by (try simp only [List.map_toArray, List.map_cons, List.map_nil]); first | done | rfl) ?_; (with_reducible refine (armadaref07_order.calls a0_1 a1_1 t337 _ A30.out).mono ?_); rintro e w' ⟨rfl, ⟨nd, rfl⟩⟩; refine ⟨_, rfl, ?_⟩) | (go_at_call 41; (with_reducible refine (armadaref07_order.calls a0_1 a1_1 t337 _ A30.out).mono ?_); rintro e w' ⟨rfl, ⟨nd, rfl⟩⟩))
      go_ret
      exact ⟨by first | rfl | (simp [errW_none, errW_some] <;> rfl) | (simp [*, errW_none, errW_some] <;> rfl), by repeat (first | (with_reducible first | exact HB.out | apply yA_ | apply yN_ | apply yD_ | refine yS_ ?_ GE332.out | refine yS_ ?_ GE333.out) | exact HB.out)⟩
    ·rw [if_neg c18] at H
     have c18b0 : (a0_0 == a1_0) = false := beq_eq_false_iff_ne.mpr c18
     have c18b1 : (a0_0 != a1_0) = true := bne_iff_ne.mpr c18
     replace H := Option.bind_eq_some_iff.mp H
     obtain ⟨t336, A340, H⟩ := H
     replace H : (some t336) = some r := H
     have A34 := Aside0.mk A340
     clear A340
     obtain rfl := Option.some.inj H
     have hnb35 := NB332_333.out
     have hnc35 := NB333_332.out
     have hcz36_0 : wc.cell? ⟨gb332, 0, none⟩ = some (.int .i64 a0_0) := (xC_ BK332.out 0).trans rfl
     have hcz36_1 : wc.cell? ⟨gb332, 1, none⟩ = some (.int .i64 a0_1) := (xC_ BK332.out 1).trans rfl
     have hcz36_2 : wc.cell? ⟨gb332, 2, none⟩ = some (.int .i64 a0_2) := (xC_ BK332.out 2).trans rfl
     have hcz36_3 : wc.cell? ⟨gb332, 3, none⟩ = some (.string a0_3) := (xC_ BK332.out 3).trans rfl
     have hcz36_4 : wc.cell? ⟨gb332, 4, none⟩ = some (.string a0_4) := (xC_ BK332.out 4).trans rfl
     have hfz36_0 := xF_ BK332.out 0
     have hfz36_1 := xF_ BK332.out 1
     have hfz36_2 := xF_ BK332.out 2
     have hfz36_3 := xF_ BK332.out 3
     have hfz36_4 := xF_ BK332.out 4
     have hcz37_0 : wc.cell? ⟨gb333, 0, none⟩ = some (.int .i64 a1_0) := (xC_ BK333.out 0).trans rfl
     have hcz37_1 : wc.cell? ⟨gb333, 1, none⟩ = some (.int .i64 a1_1) := (xC_ BK333.out 1).trans rfl
     have hcz37_2 : wc.cell? ⟨gb333, 2, none⟩ = some (.int .i64 a1_2) := (xC_ BK333.out 2).trans rfl
     have hcz37_3 : wc.cell? ⟨gb333, 3, none⟩ = some (.string a1_3) := (xC_ BK333.out 3).trans rfl
     have hcz37_4 : wc.cell? ⟨gb333, 4, none⟩ = some (.string a1_4) := (xC_ BK333.out 4).trans rfl
     have hfz37_0 := xF_ BK333.out 0
     have hfz37_1 := xF_ BK333.out 1
     have hfz37_2 := xF_ BK333.out 2
     have hfz37_3 := xF_ BK333.out 3
     have hfz37_4 := xF_ BK333.out 4
     go_wp2_with (first | ((with_reducible refine gate_callee (f := 41) rfl ?_); refine goesL_ (some 22) rfl rfl Tryd.func41 (by kernel_rfl) rfl #[.int .i64 a0_0, .int .i64 a1_0] rfl (by (try simp only [List.map_toArray, List.map_cons, List.map_nil]); first | done | rfl) ?_; (with_reducible refine (armadaref07_order.calls a0_0 a1_0 t336 _ A34.out).mono ?_); rintro e w' ⟨rfl, ⟨nd, rfl⟩⟩; refine ⟨_, rfl, ?_⟩) | (go_at_call 41; (with_reducible refine (armadaref07_order.calls a0_0 a1_0 t336 _ A34.out).mono ?_); rintro e w' ⟨rfl, ⟨nd, rfl⟩⟩))
     go_ret
     exact ⟨by first | rfl | (simp [errW_none, errW_some] <;> rfl) | (simp [*, errW_none, errW_some] <;> rfl), by repeat (first | (with_reducible first | exact HB.out | apply yA_ | apply yN_ | apply yD_ | refine yS_ ?_ GE332.out | refine yS_ ?_ GE333.out) | exact HB.out)⟩
mutual
def armadaref07_Bump.j0 : Nat → Int → Bool → Int → Int → Int → ByteArray → ByteArray → Option (Int × Int × Int × ByteArray × ByteArray × Int)
 | 0, _, _, _, _, _, _, _ => none
 | k + 1, x1, x19, x341000, x341001, x341002, x341003, x341004 => if x19 = true then (some (0, 0, 0, (⟨#[]⟩ : ByteArray), (⟨#[]⟩ : ByteArray), 1)) else (armadaref07_Bump.l0 k x1 (([(⟨x341000, x341001, x341002, (⟨#[]⟩ : ByteArray), (⟨#[]⟩ : ByteArray)⟩ : S23), (⟨x341000, x341001, wrap64 (x341002 + 1), (⟨#[]⟩ : ByteArray), (⟨#[]⟩ : ByteArray)⟩ : S23), (⟨x341000, wrap64 (x341001 + 1), 0, (⟨#[]⟩ : ByteArray), (⟨#[]⟩ : ByteArray)⟩ : S23), (⟨wrap64 (x341000 + 1), 0, 0, (⟨#[]⟩ : ByteArray), (⟨#[]⟩ : ByteArray)⟩ : S23)] : List (S23))) 0 x341000 x341001 x341002 x341003 x341004)
def armadaref07_Bump.l0 : Nat → Int → List (S23) → Int → Int → Int → Int → ByteArray → ByteArray → Option (Int × Int × Int × ByteArray × ByteArray × Int)
 | 0, _, _, _, _, _, _, _, _ => none
 | k + 1, x1, x6, x7, x341000, x341001, x341002, x341003, x341004 => if x7 < (x6.length : Int) then (if 0 ≤ x7 then (if x1 ≥ 2 then (if ((rd_T23 x6 x7).f2) = 0 then (if x1 = 3 then (if ((rd_T23 x6 x7).f1) = 0 then ((armadaref07_Check.f k ((rd_T23 x6 x7).f0) ((rd_T23 x6 x7).f1) ((rd_T23 x6 x7).f2) ((rd_T23 x6 x7).f3) ((rd_T23 x6 x7).f4)).bind fun t348 => (armadaref07_Bump.j2 k x1 x6 x7 (!t348) x341000 x341001 x341002 x341003 x341004 ((rd_T23 x6 x7).f0) ((rd_T23 x6 x7).f1) ((rd_T23 x6 x7).f2) ((rd_T23 x6 x7).f3) ((rd_T23 x6 x7).f4))) else (armadaref07_Bump.j2 k x1 x6 x7 true x341000 x341001 x341002 x341003 x341004 ((rd_T23 x6 x7).f0) ((rd_T23 x6 x7).f1) ((rd_T23 x6 x7).f2) ((rd_T23 x6 x7).f3) ((rd_T23 x6 x7).f4))) else ((armadaref07_Check.f k ((rd_T23 x6 x7).f0) ((rd_T23 x6 x7).f1) ((rd_T23 x6 x7).f2) ((rd_T23 x6 x7).f3) ((rd_T23 x6 x7).f4)).bind fun t349 => (armadaref07_Bump.j2 k x1 x6 x7 (!t349) x341000 x341001 x341002 x341003 x341004 ((rd_T23 x6 x7).f0) ((rd_T23 x6 x7).f1) ((rd_T23 x6 x7).f2) ((rd_T23 x6 x7).f3) ((rd_T23 x6 x7).f4)))) else (armadaref07_Bump.j2 k x1 x6 x7 true x341000 x341001 x341002 x341003 x341004 ((rd_T23 x6 x7).f0) ((rd_T23 x6 x7).f1) ((rd_T23 x6 x7).f2) ((rd_T23 x6 x7).f3) ((rd_T23 x6 x7).f4))) else (if x1 = 3 then (if ((rd_T23 x6 x7).f1) = 0 then ((armadaref07_Check.f k ((rd_T23 x6 x7).f0) ((rd_T23 x6 x7).f1) ((rd_T23 x6 x7).f2) ((rd_T23 x6 x7).f3) ((rd_T23 x6 x7).f4)).bind fun t350 => (armadaref07_Bump.j2 k x1 x6 x7 (!t350) x341000 x341001 x341002 x341003 x341004 ((rd_T23 x6 x7).f0) ((rd_T23 x6 x7).f1) ((rd_T23 x6 x7).f2) ((rd_T23 x6 x7).f3) ((rd_T23 x6 x7).f4))) else (armadaref07_Bump.j2 k x1 x6 x7 true x341000 x341001 x341002 x341003 x341004 ((rd_T23 x6 x7).f0) ((rd_T23 x6 x7).f1) ((rd_T23 x6 x7).f2) ((rd_T23 x6 x7).f3) ((rd_T23 x6 x7).f4))) else ((armadaref07_Check.f k ((rd_T23 x6 x7).f0) ((rd_T23 x6 x7).f1) ((rd_T23 x6 x7).f2) ((rd_T23 x6 x7).f3) ((rd_T23 x6 x7).f4)).bind fun t351 => (armadaref07_Bump.j2 k x1 x6 x7 (!t351) x341000 x341001 x341002 x341003 x341004 ((rd_T23 x6 x7).f0) ((rd_T23 x6 x7).f1) ((rd_T23 x6 x7).f2) ((rd_T23 x6 x7).f3) ((rd_T23 x6 x7).f4))))) else (none)) else (some (0, 0, 0, (⟨#[]⟩ : ByteArray), (⟨#[]⟩ : ByteArray), 15))
def armadaref07_Bump.j2 : Nat → Int → List (S23) → Int → Bool → Int → Int → Int → ByteArray → ByteArray → Int → Int → Int → ByteArray → ByteArray → Option (Int × Int × Int × ByteArray × ByteArray × Int)
 | 0, _, _, _, _, _, _, _, _, _, _, _, _, _, _ => none
 | k + 1, x1, x6, x7, x77, x341000, x341001, x341002, x341003, x341004, x348000, x348001, x348002, x348003, x348004 => if x77 = true then (armadaref07_Bump.l0 k x1 x6 (wrap64 (x7 + 1)) x341000 x341001 x341002 x341003 x341004) else ((armadaref07_Compare.f k x348000 x348001 x348002 x348003 x348004 x341000 x341001 x341002 x341003 x341004).bind fun t352 => (if t352 > 0 then (some (x348000, x348001, x348002, x348003, x348004, 0)) else (armadaref07_Bump.l0 k x1 x6 (wrap64 (x7 + 1)) x341000 x341001 x341002 x341003 x341004)))
end
def armadaref07_Bump.f (k : Nat) (a0_0 : Int) (a0_1 : Int) (a0_2 : Int) (a0_3 : ByteArray) (a0_4 : ByteArray) (a1 : Int) : Option (Int × Int × Int × ByteArray × ByteArray × Int) := (armadaref07_Check.f k a0_0 a0_1 a0_2 a0_3 a0_4).bind fun t342 => (if t342 = true then (if a1 < 1 then (armadaref07_Bump.j0 k a1 true a0_0 a0_1 a0_2 a0_3 a0_4) else (armadaref07_Bump.j0 k a1 (decide (a1 > 3)) a0_0 a0_1 a0_2 a0_3 a0_4)) else (armadaref07_Bump.j0 k a1 true a0_0 a0_1 a0_2 a0_3 a0_4))
theorem armadaref07_Bump.mono_l : ∀ k, (∀ y0 y1 y2 y3 y4 y5 y6, LeO (armadaref07_Bump.j0 k y0 y1 y2 y3 y4 y5 y6) (armadaref07_Bump.j0 (k + 1) y0 y1 y2 y3 y4 y5 y6)) ∧ (∀ y0 y1 y2 y3 y4 y5 y6 y7, LeO (armadaref07_Bump.l0 k y0 y1 y2 y3 y4 y5 y6 y7) (armadaref07_Bump.l0 (k + 1) y0 y1 y2 y3 y4 y5 y6 y7)) ∧ (∀ y0 y1 y2 y3 y4 y5 y6 y7 y8 y9 y10 y11 y12 y13, LeO (armadaref07_Bump.j2 k y0 y1 y2 y3 y4 y5 y6 y7 y8 y9 y10 y11 y12 y13) (armadaref07_Bump.j2 (k + 1) y0 y1 y2 y3 y4 y5 y6 y7 y8 y9 y10 y11 y12 y13))
 | 0 => ⟨fun _ _ _ _ _ _ _ r h => by simp [armadaref07_Bump.j0] at h, fun _ _ _ _ _ _ _ _ r h => by simp [armadaref07_Bump.l0] at h, fun _ _ _ _ _ _ _ _ _ _ _ _ _ _ r h => by simp [armadaref07_Bump.j2] at h⟩
 | k + 1 => by
  obtain ⟨ih0, ih1, ih2⟩ := armadaref07_Bump.mono_l k
  refine ⟨?_, ?_, ?_⟩
  ·intro y0 y1 y2 y3 y4 y5 y6
   unfold armadaref07_Bump.j0
   repeat' first
   | (with_reducible exact ih0 _ _ _ _ _ _ _)
   | (with_reducible exact ih1 _ _ _ _ _ _ _ _)
   | (with_reducible exact ih2 _ _ _ _ _ _ _ _ _ _ _ _ _ _)
   | (with_reducible exact armadaref07_Check.mono _ _ _ _ _ _)
   | (with_reducible exact armadaref07_Compare.mono _ _ _ _ _ _ _ _ _ _ _)
   | (with_reducible exact LeO.refl _)
   | (with_reducible exact LeO.none _)
   | (with_reducible refine LeO.ite ?_ ?_)
   | (with_reducible refine LeO.bind ?_ (fun _ => ?_))
   | exact ih0 _ _ _ _ _ _ _
   | exact ih1 _ _ _ _ _ _ _ _
   | exact ih2 _ _ _ _ _ _ _ _ _ _ _ _ _ _
   | exact armadaref07_Check.mono _ _ _ _ _ _
   | exact armadaref07_Compare.mono _ _ _ _ _ _ _ _ _ _ _
   | exact LeO.none _
   | refine LeO.ite ?_ ?_
   | refine LeO.bind ?_ (fun _ => ?_)
  ·intro y0 y1 y2 y3 y4 y5 y6 y7
   unfold armadaref07_Bump.l0
   repeat' first
   | (with_reducible exact ih0 _ _ _ _ _ _ _)
   | (with_reducible exact ih1 _ _ _ _ _ _ _ _)
   | (with_reducible exact ih2 _ _ _ _ _ _ _ _ _ _ _ _ _ _)
   | (with_reducible exact armadaref07_Check.mono _ _ _ _ _ _)
   | (with_reducible exact armadaref07_Compare.mono _ _ _ _ _ _ _ _ _ _ _)
   | (with_reducible exact LeO.refl _)
   | (with_reducible exact LeO.none _)
   | (with_reducible refine LeO.ite ?_ ?_)
   | (with_reducible refine LeO.bind ?_ (fun _ => ?_))
   | exact ih0 _ _ _ _ _ _ _
   | exact ih1 _ _ _ _ _ _ _ _
   | exact ih2 _ _ _ _ _ _ _ _ _ _ _ _ _ _
   | exact armadaref07_Check.mono _ _ _ _ _ _
   | exact armadaref07_Compare.mono _ _ _ _ _ _ _ _ _ _ _
   | exact LeO.none _
   | refine LeO.ite ?_ ?_
   | refine LeO.bind ?_ (fun _ => ?_)
  ·intro y0 y1 y2 y3 y4 y5 y6 y7 y8 y9 y10 y11 y12 y13
   unfold armadaref07_Bump.j2
   repeat' first
   | (with_reducible exact ih0 _ _ _ _ _ _ _)
   | (with_reducible exact ih1 _ _ _ _ _ _ _ _)
   | (with_reducible exact ih2 _ _ _ _ _ _ _ _ _ _ _ _ _ _)
   | (with_reducible exact armadaref07_Check.mono _ _ _ _ _ _)
   | (with_reducible exact armadaref07_Compare.mono _ _ _ _ _ _ _ _ _ _ _)
   | (with_reducible exact LeO.refl _)
   | (with_reducible exact LeO.none _)
   | (with_reducible refine LeO.ite ?_ ?_)
   | (with_reducible refine LeO.bind ?_ (fun _ => ?_))
   | exact ih0 _ _ _ _ _ _ _
   | exact ih1 _ _ _ _ _ _ _ _
   | exact ih2 _ _ _ _ _ _ _ _ _ _ _ _ _ _
   | exact armadaref07_Check.mono _ _ _ _ _ _
   | exact armadaref07_Compare.mono _ _ _ _ _ _ _ _ _ _ _
   | exact LeO.none _
   | refine LeO.ite ?_ ?_
   | refine LeO.bind ?_ (fun _ => ?_)
theorem armadaref07_Bump.mono : ∀ a0 a1 a2 a3 a4 a5 k, LeO (armadaref07_Bump.f k a0 a1 a2 a3 a4 a5) (armadaref07_Bump.f (k + 1) a0 a1 a2 a3 a4 a5) := by
 intro a0 a1 a2 a3 a4 a5 k
 obtain ⟨ih0, ih1, ih2⟩ := armadaref07_Bump.mono_l k
 unfold armadaref07_Bump.f
 repeat' first
   | (with_reducible exact ih0 _ _ _ _ _ _ _)
   | (with_reducible exact ih1 _ _ _ _ _ _ _ _)
   | (with_reducible exact ih2 _ _ _ _ _ _ _ _ _ _ _ _ _ _)
   | (with_reducible exact armadaref07_Check.mono _ _ _ _ _ _)
   | (with_reducible exact armadaref07_Compare.mono _ _ _ _ _ _ _ _ _ _ _)
   | (with_reducible exact LeO.refl _)
   | (with_reducible exact LeO.none _)
   | (with_reducible refine LeO.ite ?_ ?_)
   | (with_reducible refine LeO.bind ?_ (fun _ => ?_))
   | exact ih0 _ _ _ _ _ _ _
   | exact ih1 _ _ _ _ _ _ _ _
   | exact ih2 _ _ _ _ _ _ _ _ _ _ _ _ _ _
   | exact armadaref07_Check.mono _ _ _ _ _ _
   | exact armadaref07_Compare.mono _ _ _ _ _ _ _ _ _ _ _
   | exact LeO.none _
   | refine LeO.ite ?_ ?_
   | refine LeO.bind ?_ (fun _ => ?_)
set_option maxHeartbeats 8000000 in
set_option maxRecDepth 100000 in
theorem armadaref07_Bump.calls (k : Nat) (a0_0 : Int) (a0_1 : Int) (a0_2 : Int) (a0_3 : ByteArray) (a0_4 : ByteArray) (a1 : Int) (r1 : Int) (r2 : Int) (r3 : Int) (r4 : ByteArray) (r5 : ByteArray) (r6 : Int) (w : World) (h : armadaref07_Bump.f k a0_0 a0_1 a0_2 a0_3 a0_4 a1 = some (r1, r2, r3, r4, r5, r6)) :
  Calls Tryd.prog 18 #[.agg #[.int .i64 a0_0, .int .i64 a0_1, .int .i64 a0_2, .string a0_3, .string a0_4], .int .i64 a1] w fun e w' => e = .returned (.tuple #[.agg #[.int .i64 r1, .int .i64 r2, .int .i64 r3, .string r4, .string r5], .int .i64 r6]) ∧ Below w.heap.size w w' := by
 have hu23 := Tryd.underlying23
 have HB := Aside0.mk (Below.refl w.heap.size w)
 have H : ((armadaref07_Check.f k a0_0 a0_1 a0_2 a0_3 a0_4).bind fun t342 => (if t342 = true then (if a1 < 1 then (armadaref07_Bump.j0 k a1 true a0_0 a0_1 a0_2 a0_3 a0_4) else (armadaref07_Bump.j0 k a1 (decide (a1 > 3)) a0_0 a0_1 a0_2 a0_3 a0_4)) else (armadaref07_Bump.j0 k a1 true a0_0 a0_1 a0_2 a0_3 a0_4))) = some (r1, r2, r3, r4, r5, r6) := h
 clear h
 have HC3 := Aside0.mk H
 clear H
 go_enter Tryd.func18, Tryd.ntmps18
 go_upto_region 1 with (first | ((with_reducible refine gate_dst (N := 2) rfl ?_); refine box_event ?hg (N := 2) ?hd (cs := #[.int .i64 a0_0, .int .i64 a0_1, .int .i64 a0_2, .string a0_3, .string a0_4]) (t := 23) ?hr ?_; (case hd => rfl); (case hg => rfl); (case hr => first | (go_simp; done) | (go_simp; rfl)); intro gb340 hg w4 hbox hb; have n0_ := Aside0.mk (below_step (by repeat (first | (with_reducible first | exact HB.out | apply yA_ | apply yN_ | apply yD_) | exact HB.out)) hb); have n1_ := Aside0.mk (hbox); have n2_ := Aside0.mk ((by rw [hg]; exact (below_size (by repeat (first | (with_reducible first | exact HB.out | apply yA_ | apply yN_ | apply yD_) | exact HB.out))) : w.heap.size ≤ gb340)); have n3_ := Aside0.mk ((by rw [hg]; exact (below_size (by repeat (first | (with_reducible first | exact HB.out | apply yA_ | apply yN_ | apply yD_) | exact HB.out))) : w.heap.size ≤ gb340)); clear HB; have HB := n0_; have BK340 := n1_; have GW340 := n2_; have GE340 := n3_; clear n0_ n1_ n2_ n3_; clear hb hbox hg) | ((with_reducible refine gate_dst (N := 4) rfl ?_); refine box_event ?hg (N := 4) ?hd (cs := #[.int .i64 0, .int .i64 0, .int .i64 0, .string (⟨#[]⟩ : ByteArray), .string (⟨#[]⟩ : ByteArray)]) (t := 23) ?hr ?_; (case hd => rfl); (case hg => rfl); (case hr => first | (go_simp; done) | (go_simp; rfl)); intro gb341 hg w5 hbox hb; have n0_ := Aside0.mk (blk_below (g := gb340) (o := .cells #[.int .i64 a0_0, .int .i64 a0_1, .int .i64 a0_2, .string a0_3, .string a0_4] 23 (0, 0)) (by (with_reducible repeat (first | apply xN_ | apply xD_ | apply xA_)); exact BK340.out) hb); have n1_ := Aside0.mk (below_step (by repeat (first | (with_reducible first | exact HB.out | apply yA_ | apply yN_ | apply yD_ | refine yS_ ?_ GE340.out) | exact HB.out)) hb); have n2_ := Aside0.mk (hbox); have n3_ := Aside0.mk ((by rw [hg]; exact (below_size (by repeat (first | (with_reducible first | exact HB.out | apply yA_ | apply yN_ | apply yD_ | refine yS_ ?_ GE340.out) | exact HB.out))) : w.heap.size ≤ gb341)); have n4_ := Aside0.mk ((by rw [hg]; exact (below_size (by repeat (first | (with_reducible first | exact HB.out | apply yA_ | apply yN_ | apply yD_ | refine yS_ ?_ GE340.out) | exact HB.out))) : w.heap.size ≤ gb341)); have n5_ := Aside0.mk ((by rw [hg]; exact Nat.ne_of_lt (blk_lt (g := gb340) (o := .cells #[.int .i64 a0_0, .int .i64 a0_1, .int .i64 a0_2, .string a0_3, .string a0_4] 23 (0, 0)) (by (with_reducible repeat (first | apply xN_ | apply xD_ | apply xA_)); exact BK340.out)) : gb340 ≠ gb341)); have n6_ := Aside0.mk ((by rw [hg]; exact Nat.ne_of_gt (blk_lt (g := gb340) (o := .cells #[.int .i64 a0_0, .int .i64 a0_1, .int .i64 a0_2, .string a0_3, .string a0_4] 23 (0, 0)) (by (with_reducible repeat (first | apply xN_ | apply xD_ | apply xA_)); exact BK340.out)) : gb341 ≠ gb340)); clear BK340; clear HB; have BK340 := n0_; have HB := n1_; have BK341 := n2_; have GW341 := n3_; have GE341 := n4_; have NB340_341 := n5_; have NB341_340 := n6_; clear n0_ n1_ n2_ n3_ n4_ n5_ n6_; clear hb hbox hg))
 (try simp only [Act.put, List.setIfInBounds_toArray, List.set_cons_zero, List.set_cons_succ])
 go_cut [19] (fun v19 wc => ∃ (kq : Nat) (x19_2 : Bool), v19 = .bool x19_2 ∧ Aside0 (armadaref07_Bump.j0 kq a1 x19_2 a0_0 a0_1 a0_2 a0_3 a0_4 = some (r1, r2, r3, r4, r5, r6)) ∧ Aside0 (kq ≤ k) ∧ Aside0 (wc.heap[gb340]? = some (.cells #[.int .i64 a0_0, .int .i64 a0_1, .int .i64 a0_2, .string a0_3, .string a0_4] 23 (0, 0))) ∧ Aside0 (wc.heap[gb341]? = some (.cells #[.int .i64 0, .int .i64 0, .int .i64 0, .string (⟨#[]⟩ : ByteArray), .string (⟨#[]⟩ : ByteArray)] 23 (0, 0))) ∧ Aside0 (Below w.heap.size w wc))
 case first =>
  have H := HC3.out
  clear HC3
  replace H := Option.bind_eq_some_iff.mp H
  obtain ⟨t342, A60, H⟩ := H
  replace H : (if t342 = true then (if a1 < 1 then (armadaref07_Bump.j0 k a1 true a0_0 a0_1 a0_2 a0_3 a0_4) else (armadaref07_Bump.j0 k a1 (decide (a1 > 3)) a0_0 a0_1 a0_2 a0_3 a0_4)) else (armadaref07_Bump.j0 k a1 true a0_0 a0_1 a0_2 a0_3 a0_4)) = some (r1, r2, r3, r4, r5, r6) := H
  have A6 := Aside0.mk A60
  clear A60
  by_cases c7 : t342 = true
  ·subst c7
   have H1 : (if a1 < 1 then (armadaref07_Bump.j0 k a1 true a0_0 a0_1 a0_2 a0_3 a0_4) else (armadaref07_Bump.j0 k a1 (decide (a1 > 3)) a0_0 a0_1 a0_2 a0_3 a0_4)) = some (r1, r2, r3, r4, r5, r6) := by rw [if_pos rfl] at H; exact H
   clear H
   have H := H1
   clear H1
   by_cases c8 : a1 < 1
   ·rw [if_pos c8] at H
    have c8b0 : decide (a1 < 1) = true := decide_eq_true c8
    clear c8
    (first | rw [c8b0] | (simp only [i64_w, i32_w]; rw [c8b0]) | skip)
    have H' := Aside0.mk H
    clear H
    have hnb9 := NB340_341.out
    have hnc9 := NB341_340.out
    have hcz10_0 : w5.cell? ⟨gb340, 0, none⟩ = some (.int .i64 a0_0) := (xC_ BK340.out 0).trans rfl
    have hcz10_1 : w5.cell? ⟨gb340, 1, none⟩ = some (.int .i64 a0_1) := (xC_ BK340.out 1).trans rfl
    have hcz10_2 : w5.cell? ⟨gb340, 2, none⟩ = some (.int .i64 a0_2) := (xC_ BK340.out 2).trans rfl
    have hcz10_3 : w5.cell? ⟨gb340, 3, none⟩ = some (.string a0_3) := (xC_ BK340.out 3).trans rfl
    have hcz10_4 : w5.cell? ⟨gb340, 4, none⟩ = some (.string a0_4) := (xC_ BK340.out 4).trans rfl
    have hfz10_0 := xF_ BK340.out 0
    have hfz10_1 := xF_ BK340.out 1
    have hfz10_2 := xF_ BK340.out 2
    have hfz10_3 := xF_ BK340.out 3
    have hfz10_4 := xF_ BK340.out 4
    go_wp2_with (first | ((with_reducible refine gate_callee (f := 14) rfl ?_); refine goesL_ (some 10) rfl rfl Tryd.func14 (by kernel_rfl) rfl #[.agg #[.int .i64 a0_0, .int .i64 a0_1, .int .i64 a0_2, .string a0_3, .string a0_4]] rfl (by (try simp only [List.map_toArray, List.map_cons, List.map_nil]); first | done | rfl) ?_; (with_reducible refine (armadaref07_Check.calls k a0_0 a0_1 a0_2 a0_3 a0_4 true _ A6.out).mono ?_); rintro e w11 ⟨rfl, hb⟩; refine ⟨_, rfl, ?_⟩; have n0_ := Aside0.mk (blk_below (g := gb340) (o := .cells #[.int .i64 a0_0, .int .i64 a0_1, .int .i64 a0_2, .string a0_3, .string a0_4] 23 (0, 0)) (by (with_reducible repeat (first | apply xN_ | apply xD_ | apply xA_)); exact BK340.out) hb); have n1_ := Aside0.mk (blk_below (g := gb341) (o := .cells #[.int .i64 0, .int .i64 0, .int .i64 0, .string (⟨#[]⟩ : ByteArray), .string (⟨#[]⟩ : ByteArray)] 23 (0, 0)) (by (with_reducible repeat (first | apply xN_ | apply xD_ | apply xA_)); exact BK341.out) hb); have n2_ := Aside0.mk (below_step (by repeat (first | (with_reducible first | exact HB.out | apply yA_ | apply yN_ | apply yD_ | refine yS_ ?_ GE340.out | refine yS_ ?_ GE341.out) | exact HB.out)) hb); clear BK340; clear BK341; clear HB; have BK340 := n0_; have BK341 := n1_; have HB := n2_; clear n0_ n1_ n2_; (try clear hb); (try clear hb2); (try clear hk); (try clear hi)))
    go_meet
    case rel => exact ⟨_, (true), (by first | rfl | (simp; done) | (simp [*]; done)), H', ⟨by first | omega | exact Nat.le_refl _⟩, ⟨by (with_reducible repeat (first | apply xN_ | apply xD_ | apply xA_)); exact BK340.out⟩, ⟨by (with_reducible repeat (first | apply xN_ | apply xD_ | apply xA_)); exact BK341.out⟩, ⟨by repeat (first | (with_reducible first | exact HB.out | apply yA_ | apply yN_ | apply yD_ | refine yS_ ?_ GE340.out | refine yS_ ?_ GE341.out) | exact HB.out)⟩⟩
   ·rw [if_neg c8] at H
    have c8b0 : decide (a1 < 1) = false := decide_eq_false c8
    clear c8
    (first | rw [c8b0] | (simp only [i64_w, i32_w]; rw [c8b0]) | skip)
    have H' := Aside0.mk H
    clear H
    have hnb12 := NB340_341.out
    have hnc12 := NB341_340.out
    have hcz13_0 : w5.cell? ⟨gb340, 0, none⟩ = some (.int .i64 a0_0) := (xC_ BK340.out 0).trans rfl
    have hcz13_1 : w5.cell? ⟨gb340, 1, none⟩ = some (.int .i64 a0_1) := (xC_ BK340.out 1).trans rfl
    have hcz13_2 : w5.cell? ⟨gb340, 2, none⟩ = some (.int .i64 a0_2) := (xC_ BK340.out 2).trans rfl
    have hcz13_3 : w5.cell? ⟨gb340, 3, none⟩ = some (.string a0_3) := (xC_ BK340.out 3).trans rfl
    have hcz13_4 : w5.cell? ⟨gb340, 4, none⟩ = some (.string a0_4) := (xC_ BK340.out 4).trans rfl
    have hfz13_0 := xF_ BK340.out 0
    have hfz13_1 := xF_ BK340.out 1
    have hfz13_2 := xF_ BK340.out 2
    have hfz13_3 := xF_ BK340.out 3
    have hfz13_4 := xF_ BK340.out 4
    go_wp2_with (first | ((with_reducible refine gate_callee (f := 14) rfl ?_); refine goesL_ (some 10) rfl rfl Tryd.func14 (by kernel_rfl) rfl #[.agg #[.int .i64 a0_0, .int .i64 a0_1, .int .i64 a0_2, .string a0_3, .string a0_4]] rfl (by (try simp only [List.map_toArray, List.map_cons, List.map_nil]); first | done | rfl) ?_; (with_reducible refine (armadaref07_Check.calls k a0_0 a0_1 a0_2 a0_3 a0_4 true _ A6.out).mono ?_); rintro e w14 ⟨rfl, hb⟩; refine ⟨_, rfl, ?_⟩; have n0_ := Aside0.mk (blk_below (g := gb340) (o := .cells #[.int .i64 a0_0, .int .i64 a0_1, .int .i64 a0_2, .string a0_3, .string a0_4] 23 (0, 0)) (by (with_reducible repeat (first | apply xN_ | apply xD_ | apply xA_)); exact BK340.out) hb); have n1_ := Aside0.mk (blk_below (g := gb341) (o := .cells #[.int .i64 0, .int .i64 0, .int .i64 0, .string (⟨#[]⟩ : ByteArray), .string (⟨#[]⟩ : ByteArray)] 23 (0, 0)) (by (with_reducible repeat (first | apply xN_ | apply xD_ | apply xA_)); exact BK341.out) hb); have n2_ := Aside0.mk (below_step (by repeat (first | (with_reducible first | exact HB.out | apply yA_ | apply yN_ | apply yD_ | refine yS_ ?_ GE340.out | refine yS_ ?_ GE341.out) | exact HB.out)) hb); clear BK340; clear BK341; clear HB; have BK340 := n0_; have BK341 := n1_; have HB := n2_; clear n0_ n1_ n2_; (try clear hb); (try clear hb2); (try clear hk); (try clear hi)))
    go_meet
    case rel => exact ⟨_, (decide (a1 > 3)), (by first | rfl | (simp; done) | (simp [*]; done)), H', ⟨by first | omega | exact Nat.le_refl _⟩, ⟨by (with_reducible repeat (first | apply xN_ | apply xD_ | apply xA_)); exact BK340.out⟩, ⟨by (with_reducible repeat (first | apply xN_ | apply xD_ | apply xA_)); exact BK341.out⟩, ⟨by repeat (first | (with_reducible first | exact HB.out | apply yA_ | apply yN_ | apply yD_ | refine yS_ ?_ GE340.out | refine yS_ ?_ GE341.out) | exact HB.out)⟩⟩
  ·replace c7 := Bool.eq_false_iff.mpr c7
   subst c7
   have H1 : (armadaref07_Bump.j0 k a1 true a0_0 a0_1 a0_2 a0_3 a0_4) = some (r1, r2, r3, r4, r5, r6) := by rw [if_neg (show ¬ (false = true) by decide)] at H; exact H
   clear H
   have H := H1
   clear H1
   have H' := Aside0.mk H
   clear H
   have hnb15 := NB340_341.out
   have hnc15 := NB341_340.out
   have hcz16_0 : w5.cell? ⟨gb340, 0, none⟩ = some (.int .i64 a0_0) := (xC_ BK340.out 0).trans rfl
   have hcz16_1 : w5.cell? ⟨gb340, 1, none⟩ = some (.int .i64 a0_1) := (xC_ BK340.out 1).trans rfl
   have hcz16_2 : w5.cell? ⟨gb340, 2, none⟩ = some (.int .i64 a0_2) := (xC_ BK340.out 2).trans rfl
   have hcz16_3 : w5.cell? ⟨gb340, 3, none⟩ = some (.string a0_3) := (xC_ BK340.out 3).trans rfl
   have hcz16_4 : w5.cell? ⟨gb340, 4, none⟩ = some (.string a0_4) := (xC_ BK340.out 4).trans rfl
   have hfz16_0 := xF_ BK340.out 0
   have hfz16_1 := xF_ BK340.out 1
   have hfz16_2 := xF_ BK340.out 2
   have hfz16_3 := xF_ BK340.out 3
   have hfz16_4 := xF_ BK340.out 4
   go_wp2_with (first | ((with_reducible refine gate_callee (f := 14) rfl ?_); refine goesL_ (some 10) rfl rfl Tryd.func14 (by kernel_rfl) rfl #[.agg #[.int .i64 a0_0, .int .i64 a0_1, .int .i64 a0_2, .string a0_3, .string a0_4]] rfl (by (try simp only [List.map_toArray, List.map_cons, List.map_nil]); first | done | rfl) ?_; (with_reducible refine (armadaref07_Check.calls k a0_0 a0_1 a0_2 a0_3 a0_4 false _ A6.out).mono ?_); rintro e w17 ⟨rfl, hb⟩; refine ⟨_, rfl, ?_⟩; have n0_ := Aside0.mk (blk_below (g := gb340) (o := .cells #[.int .i64 a0_0, .int .i64 a0_1, .int .i64 a0_2, .string a0_3, .string a0_4] 23 (0, 0)) (by (with_reducible repeat (first | apply xN_ | apply xD_ | apply xA_)); exact BK340.out) hb); have n1_ := Aside0.mk (blk_below (g := gb341) (o := .cells #[.int .i64 0, .int .i64 0, .int .i64 0, .string (⟨#[]⟩ : ByteArray), .string (⟨#[]⟩ : ByteArray)] 23 (0, 0)) (by (with_reducible repeat (first | apply xN_ | apply xD_ | apply xA_)); exact BK341.out) hb); have n2_ := Aside0.mk (below_step (by repeat (first | (with_reducible first | exact HB.out | apply yA_ | apply yN_ | apply yD_ | refine yS_ ?_ GE340.out | refine yS_ ?_ GE341.out) | exact HB.out)) hb); clear BK340; clear BK341; clear HB; have BK340 := n0_; have BK341 := n1_; have HB := n2_; clear n0_ n1_ n2_; (try clear hb); (try clear hb2); (try clear hk); (try clear hi)))
   go_meet
   case rel => exact ⟨_, (true), (by first | rfl | (simp; done) | (simp [*]; done)), H', ⟨by first | omega | exact Nat.le_refl _⟩, ⟨by (with_reducible repeat (first | apply xN_ | apply xD_ | apply xA_)); exact BK340.out⟩, ⟨by (with_reducible repeat (first | apply xN_ | apply xD_ | apply xA_)); exact BK341.out⟩, ⟨by repeat (first | (with_reducible first | exact HB.out | apply yA_ | apply yN_ | apply yD_ | refine yS_ ?_ GE340.out | refine yS_ ?_ GE341.out) | exact HB.out)⟩⟩
 case rest =>
  clear HC3
  (try clear c1); (try clear p2); (try clear c7); (try clear c8); (try clear c8b0); (try clear c9); (try clear c12); (try clear c14); (try clear c15); (try clear hcz10_0)
  (try clear hcz10_1); (try clear hcz10_2); (try clear hcz10_3); (try clear hcz10_4); (try clear hcz13_0); (try clear hcz13_1); (try clear hcz13_2); (try clear hcz13_3)
  (try clear hcz13_4); (try clear hcz16_0); (try clear hcz16_1); (try clear hcz16_2); (try clear hcz16_3); (try clear hcz16_4); (try clear hfz10_0); (try clear hfz10_1)
  (try clear hfz10_2); (try clear hfz10_3); (try clear hfz10_4); (try clear hfz13_0); (try clear hfz13_1); (try clear hfz13_2); (try clear hfz13_3); (try clear hfz13_4)
  (try clear hfz16_0); (try clear hfz16_1); (try clear hfz16_2); (try clear hfz16_3); (try clear hfz16_4)
  obtain ⟨kq, x19_2, rfl, HA, HJ2, BK340, BK341, HB⟩ := hcut
  cases kq with
  | zero => exact absurd HA.out (by simp [armadaref07_Bump.j0])
  | succ kj2 =>
   have H := HA.out
   clear HA
   simp only [armadaref07_Bump.j0] at H
   by_cases c18 : x19_2 = true
   ·subst c18
    have H1 : (some (0, 0, 0, (⟨#[]⟩ : ByteArray), (⟨#[]⟩ : ByteArray), 1)) = some (r1, r2, r3, r4, r5, r6) := by rw [if_pos rfl] at H; exact H
    clear H
    have H := H1
    clear H1
    simp only [Option.some.injEq, Prod.mk.injEq] at H
    obtain ⟨rfl, rfl, rfl, rfl, rfl, rfl⟩ := H
    have hnb19 := NB341_340.out
    have hnc19 := NB340_341.out
    have hcz20_0 : wc.cell? ⟨gb341, 0, none⟩ = some (.int .i64 0) := (xC_ BK341.out 0).trans rfl
    have hcz20_1 : wc.cell? ⟨gb341, 1, none⟩ = some (.int .i64 0) := (xC_ BK341.out 1).trans rfl
    have hcz20_2 : wc.cell? ⟨gb341, 2, none⟩ = some (.int .i64 0) := (xC_ BK341.out 2).trans rfl
    have hcz20_3 : wc.cell? ⟨gb341, 3, none⟩ = some (.string (⟨#[]⟩ : ByteArray)) := (xC_ BK341.out 3).trans rfl
    have hcz20_4 : wc.cell? ⟨gb341, 4, none⟩ = some (.string (⟨#[]⟩ : ByteArray)) := (xC_ BK341.out 4).trans rfl
    have hfz20_0 := xF_ BK341.out 0
    have hfz20_1 := xF_ BK341.out 1
    have hfz20_2 := xF_ BK341.out 2
    have hfz20_3 := xF_ BK341.out 3
    have hfz20_4 := xF_ BK341.out 4
    go_wp2
    refine bodyPost_ret (results_ct rfl _ _ gb341 23 #[.int .i64 0, .int .i64 0, .int .i64 0, .string (⟨#[]⟩ : ByteArray), .string (⟨#[]⟩ : ByteArray)] (0, 0) _ rfl (by (with_reducible repeat (first | apply xN_ | apply xD_ | apply xA_)); refine blk_put (cs := #[.int .i64 0, .int .i64 0, .int .i64 0, .string (⟨#[]⟩ : ByteArray), .string (⟨#[]⟩ : ByteArray)]) ?_ 4 _ rfl; refine blk_put (cs := #[.int .i64 0, .int .i64 0, .int .i64 0, .string (⟨#[]⟩ : ByteArray), .string (⟨#[]⟩ : ByteArray)]) ?_ 3 _ rfl; refine blk_put (cs := #[.int .i64 0, .int .i64 0, .int .i64 0, .string (⟨#[]⟩ : ByteArray), .string (⟨#[]⟩ : ByteArray)]) ?_ 2 _ rfl; refine blk_put (cs := #[.int .i64 0, .int .i64 0, .int .i64 0, .string (⟨#[]⟩ : ByteArray), .string (⟨#[]⟩ : ByteArray)]) ?_ 1 _ rfl; refine blk_put (cs := #[.int .i64 0, .int .i64 0, .int .i64 0, .string (⟨#[]⟩ : ByteArray), .string (⟨#[]⟩ : ByteArray)]) ?_ 0 _ rfl; (with_reducible repeat (first | apply xN_ | apply xD_ | apply xA_)); exact BK341.out) Tryd.underlying23 rfl (by kernel_rfl)) rfl ?_
    exact ⟨by first | rfl | (simp [errW_none, errW_some] <;> rfl) | (simp [*, errW_none, errW_some] <;> rfl), by repeat (first | (with_reducible first | exact HB.out | apply yA_ | apply yN_ | apply yD_ | refine yS_ ?_ GE340.out | refine yS_ ?_ GE341.out) | exact HB.out)⟩
   ·replace c18 := Bool.eq_false_iff.mpr c18
    subst c18
    have H1 : (armadaref07_Bump.l0 kj2 a1 (([(⟨a0_0, a0_1, a0_2, (⟨#[]⟩ : ByteArray), (⟨#[]⟩ : ByteArray)⟩ : S23), (⟨a0_0, a0_1, wrap64 (a0_2 + 1), (⟨#[]⟩ : ByteArray), (⟨#[]⟩ : ByteArray)⟩ : S23), (⟨a0_0, wrap64 (a0_1 + 1), 0, (⟨#[]⟩ : ByteArray), (⟨#[]⟩ : ByteArray)⟩ : S23), (⟨wrap64 (a0_0 + 1), 0, 0, (⟨#[]⟩ : ByteArray), (⟨#[]⟩ : ByteArray)⟩ : S23)] : List (S23))) 0 a0_0 a0_1 a0_2 a0_3 a0_4) = some (r1, r2, r3, r4, r5, r6) := by rw [if_neg (show ¬ (false = true) by decide)] at H; exact H
    clear H
    have H := H1
    clear H1
    obtain ⟨y343, hy343⟩ : ∃ y_ : List (S23), y_ = (([(⟨a0_0, a0_1, a0_2, (⟨#[]⟩ : ByteArray), (⟨#[]⟩ : ByteArray)⟩ : S23), (⟨a0_0, a0_1, wrap64 (a0_2 + 1), (⟨#[]⟩ : ByteArray), (⟨#[]⟩ : ByteArray)⟩ : S23), (⟨a0_0, wrap64 (a0_1 + 1), 0, (⟨#[]⟩ : ByteArray), (⟨#[]⟩ : ByteArray)⟩ : S23), (⟨wrap64 (a0_0 + 1), 0, 0, (⟨#[]⟩ : ByteArray), (⟨#[]⟩ : ByteArray)⟩ : S23)] : List (S23))) := ⟨_, rfl⟩
    replace H : (armadaref07_Bump.l0 kj2 a1 y343 0 a0_0 a0_1 a0_2 a0_3 a0_4) = some (r1, r2, r3, r4, r5, r6) := by first | (rw [hy343]; with_reducible exact H) | (have H2_ := (Option.bind_some _ _).symm.trans H; rw [hy343]; with_reducible exact H2_) | (have H2_ := (Option.bind_some _ _).symm.trans H; with_reducible exact H2_) | with_reducible exact H | (rw [hy343]; exact H) | exact H
    have Ny343 := Aside0.mk hy343
    clear hy343
    have H' := Aside0.mk H
    clear H
    have hnb21 := NB340_341.out
    have hnc21 := NB341_340.out
    have hcz22_0 : wc.cell? ⟨gb340, 0, none⟩ = some (.int .i64 a0_0) := (xC_ BK340.out 0).trans rfl
    have hcz22_1 : wc.cell? ⟨gb340, 1, none⟩ = some (.int .i64 a0_1) := (xC_ BK340.out 1).trans rfl
    have hcz22_2 : wc.cell? ⟨gb340, 2, none⟩ = some (.int .i64 a0_2) := (xC_ BK340.out 2).trans rfl
    have hcz22_3 : wc.cell? ⟨gb340, 3, none⟩ = some (.string a0_3) := (xC_ BK340.out 3).trans rfl
    have hcz22_4 : wc.cell? ⟨gb340, 4, none⟩ = some (.string a0_4) := (xC_ BK340.out 4).trans rfl
    have hfz22_0 := xF_ BK340.out 0
    have hfz22_1 := xF_ BK340.out 1
    have hfz22_2 := xF_ BK340.out 2
    have hfz22_3 := xF_ BK340.out 3
    have hfz22_4 := xF_ BK340.out 4
    go_wp2_with (first | ((with_reducible refine gate_dst (N := 46) rfl ?_); refine Kd.R_lit k23 _ 23 ?hg (N := 46) ?hd (xs := ([(⟨a0_0, a0_1, a0_2, (⟨#[]⟩ : ByteArray), (⟨#[]⟩ : ByteArray)⟩ : S23), (⟨a0_0, a0_1, wrap64 (a0_2 + 1), (⟨#[]⟩ : ByteArray), (⟨#[]⟩ : ByteArray)⟩ : S23), (⟨a0_0, wrap64 (a0_1 + 1), 0, (⟨#[]⟩ : ByteArray), (⟨#[]⟩ : ByteArray)⟩ : S23), (⟨wrap64 (a0_0 + 1), 0, 0, (⟨#[]⟩ : ByteArray), (⟨#[]⟩ : ByteArray)⟩ : S23)] : List (S23))) (inner := [.int .i64 a0_0, .int .i64 a0_1, .int .i64 a0_2, .string (⟨#[]⟩ : ByteArray), .string (⟨#[]⟩ : ByteArray), .int .i64 a0_0, .int .i64 a0_1, .int .i64 (wrap64 (a0_2 + 1)), .string (⟨#[]⟩ : ByteArray), .string (⟨#[]⟩ : ByteArray), .int .i64 a0_0, .int .i64 (wrap64 (a0_1 + 1)), .int .i64 0, .string (⟨#[]⟩ : ByteArray), .string (⟨#[]⟩ : ByteArray), .int .i64 (wrap64 (a0_0 + 1)), .int .i64 0, .int .i64 0, .string (⟨#[]⟩ : ByteArray), .string (⟨#[]⟩ : ByteArray)]) (ok := fun _ => True) (okp := fun _ => True) ?hr ?hp (fun _ hk => hk) trivial (Below.refl _ _) (Nat.le_refl _) (by simp) ?_; (case hd => rfl); (case hg => rfl); (case hr => first | (go_simp; done) | (go_simp; rfl)); (case hp => exact (Reps.c5 (show Kd.M k23 _ _ _ (⟨a0_0, a0_1, a0_2, (⟨#[]⟩ : ByteArray), (⟨#[]⟩ : ByteArray)⟩ : S23) [.int .i64 a0_0, .int .i64 a0_1, .int .i64 a0_2, .string (⟨#[]⟩ : ByteArray), .string (⟨#[]⟩ : ByteArray)] from (k23_mkM _ _ _ (⟨a0_0, a0_1, a0_2, (⟨#[]⟩ : ByteArray), (⟨#[]⟩ : ByteArray)⟩ : S23) )) (Reps.c5 (show Kd.M k23 _ _ _ (⟨a0_0, a0_1, wrap64 (a0_2 + 1), (⟨#[]⟩ : ByteArray), (⟨#[]⟩ : ByteArray)⟩ : S23) [.int .i64 a0_0, .int .i64 a0_1, .int .i64 (wrap64 (a0_2 + 1)), .string (⟨#[]⟩ : ByteArray), .string (⟨#[]⟩ : ByteArray)] from (k23_mkM _ _ _ (⟨a0_0, a0_1, wrap64 (a0_2 + 1), (⟨#[]⟩ : ByteArray), (⟨#[]⟩ : ByteArray)⟩ : S23) )) (Reps.c5 (show Kd.M k23 _ _ _ (⟨a0_0, wrap64 (a0_1 + 1), 0, (⟨#[]⟩ : ByteArray), (⟨#[]⟩ : ByteArray)⟩ : S23) [.int .i64 a0_0, .int .i64 (wrap64 (a0_1 + 1)), .int .i64 0, .string (⟨#[]⟩ : ByteArray), .string (⟨#[]⟩ : ByteArray)] from (k23_mkM _ _ _ (⟨a0_0, wrap64 (a0_1 + 1), 0, (⟨#[]⟩ : ByteArray), (⟨#[]⟩ : ByteArray)⟩ : S23) )) (Reps.c5 (show Kd.M k23 _ _ _ (⟨wrap64 (a0_0 + 1), 0, 0, (⟨#[]⟩ : ByteArray), (⟨#[]⟩ : ByteArray)⟩ : S23) [.int .i64 (wrap64 (a0_0 + 1)), .int .i64 0, .int .i64 0, .string (⟨#[]⟩ : ByteArray), .string (⟨#[]⟩ : ByteArray)] from (k23_mkM _ _ _ (⟨wrap64 (a0_0 + 1), 0, 0, (⟨#[]⟩ : ByteArray), (⟨#[]⟩ : ByteArray)⟩ : S23) )) (Reps.none _ _)))))); intro v344 w23 ho24 hb hg_ hnew_; clear hg_ hnew_; (first | rw [← Ny343.out] at ho24 | (simp only [Int.reduceToNat] at ho24; rw [← Ny343.out] at ho24)); have n0_ := Aside0.mk (Kd.R_lower (Kd.R_newB (Kd.R_newB ho24 (g := gb340) (o := .cells #[.int .i64 a0_0, .int .i64 a0_1, .int .i64 a0_2, .string a0_3, .string a0_4] 23 (0, 0)) (by (with_reducible repeat (first | apply xN_ | apply xD_ | apply xA_)); exact BK340.out)) (g := gb341) (o := .cells #[.int .i64 0, .int .i64 0, .int .i64 0, .string (⟨#[]⟩ : ByteArray), .string (⟨#[]⟩ : ByteArray)] 23 (0, 0)) (by (with_reducible repeat (first | apply xN_ | apply xD_ | apply xA_)); exact BK341.out)) (below_size (by repeat (first | (with_reducible first | exact HB.out | apply yA_ | apply yN_ | apply yD_ | refine yS_ ?_ GE340.out | refine yS_ ?_ GE341.out) | exact HB.out)))); have n1_ := Aside0.mk (blk_below (g := gb340) (o := .cells #[.int .i64 a0_0, .int .i64 a0_1, .int .i64 a0_2, .string a0_3, .string a0_4] 23 (0, 0)) (by (with_reducible repeat (first | apply xN_ | apply xD_ | apply xA_)); exact BK340.out) hb); have n2_ := Aside0.mk (blk_below (g := gb341) (o := .cells #[.int .i64 0, .int .i64 0, .int .i64 0, .string (⟨#[]⟩ : ByteArray), .string (⟨#[]⟩ : ByteArray)] 23 (0, 0)) (by (with_reducible repeat (first | apply xN_ | apply xD_ | apply xA_)); exact BK341.out) hb); have n3_ := Aside0.mk (below_step (by repeat (first | (with_reducible first | exact HB.out | apply yA_ | apply yN_ | apply yD_ | refine yS_ ?_ GE340.out | refine yS_ ?_ GE341.out) | exact HB.out)) hb); clear BK340; clear BK341; clear HB; have HO345 := n0_; have BK340 := n1_; have BK341 := n2_; have HB := n3_; clear n0_ n1_ n2_ n3_; clear hb ho24))
    go_loopg [7] kj2 (fun kq v7 w' => ∃ (x7_2 : Int) (x342000_2 : Int) (x342001_2 : Int) (x342002_2 : Int) (x342003_2 : ByteArray) (x342004_2 : ByteArray), v7 = .int .i64 x7_2 ∧ Aside0 (armadaref07_Bump.l0 kq a1 y343 x7_2 a0_0 a0_1 a0_2 a0_3 a0_4 = some (r1, r2, r3, r4, r5, r6)) ∧ Aside0 (kq ≤ kj2) ∧ Aside0 (Kd.R k23 23 w' w.heap.size (fun k_ => k_ ≠ gb340 ∧ k_ ≠ gb341) v344 y343) ∧ Aside0 (w'.heap[gb340]? = some (.cells #[.int .i64 a0_0, .int .i64 a0_1, .int .i64 a0_2, .string a0_3, .string a0_4] 23 (0, 0))) ∧ Aside0 (w'.heap[gb341]? = some (.cells #[.int .i64 x342000_2, .int .i64 x342001_2, .int .i64 x342002_2, .string x342003_2, .string x342004_2] 23 (0, 0))) ∧ Aside0 (Below w.heap.size w w'))
    case atStart => exact ⟨(0), (0), (0), (0), ((⟨#[]⟩ : ByteArray)), ((⟨#[]⟩ : ByteArray)), (by first | rfl | (simp; done) | (simp [*]; done)), H', ⟨Nat.le_refl _⟩, ⟨by (with_reducible repeat (first | apply Kd.R_alloc | apply Kd.R_drewN | apply Kd.R_drew)); exact Kd.R_mono HO345.out (fun _ hk => ⟨hk.1.2, hk.2⟩)⟩, ⟨by (with_reducible repeat (first | apply xN_ | apply xD_ | apply xA_)); exact BK340.out⟩, ⟨by (with_reducible repeat (first | apply xN_ | apply xD_ | apply xA_)); exact BK341.out⟩, ⟨by repeat (first | (with_reducible first | exact HB.out | apply yA_ | apply yN_ | apply yD_ | refine yS_ ?_ GE340.out | refine yS_ ?_ GE341.out) | exact HB.out)⟩⟩
    case round =>
     clear H'
     (try clear c1); (try clear c2); (try clear p2); (try clear c5); (try clear p6); (try clear c7); (try clear c8); (try clear c8b0); (try clear c9); (try clear c12)
     (try clear c14); (try clear c15); (try clear c18); (try clear c19); (try clear c21); (try clear hcz10_0); (try clear hcz10_1); (try clear hcz10_2); (try clear hcz10_3)
     (try clear hcz10_4); (try clear hcz13_0); (try clear hcz13_1); (try clear hcz13_2); (try clear hcz13_3); (try clear hcz13_4); (try clear hcz16_0); (try clear hcz16_1)
     (try clear hcz16_2); (try clear hcz16_3); (try clear hcz16_4); (try clear hcz20_0); (try clear hcz20_1); (try clear hcz20_2); (try clear hcz20_3); (try clear hcz20_4)
     (try clear hcz22_0); (try clear hcz22_1); (try clear hcz22_2); (try clear hcz22_3); (try clear hcz22_4); (try clear hfz10_0); (try clear hfz10_1); (try clear hfz10_2)
     (try clear hfz10_3); (try clear hfz10_4); (try clear hfz13_0); (try clear hfz13_1); (try clear hfz13_2); (try clear hfz13_3); (try clear hfz13_4); (try clear hfz16_0)
     (try clear hfz16_1); (try clear hfz16_2); (try clear hfz16_3); (try clear hfz16_4); (try clear hfz20_0); (try clear hfz20_1); (try clear hfz20_2); (try clear hfz20_3)
     (try clear hfz20_4); (try clear hfz22_0); (try clear hfz22_1); (try clear hfz22_2); (try clear hfz22_3); (try clear hfz22_4); (try clear p2)
     obtain ⟨x7_2, x342000_2, x342001_2, x342002_2, x342003_2, x342004_2, rfl, HA, HK2, HO_6, BK340, BK341, HB⟩ := hrel
     cases gk with
     | zero => exact absurd HA.out (by simp [armadaref07_Bump.l0])
     | succ k2 =>
      have H := HA.out
      clear HA
      simp only [armadaref07_Bump.l0] at H
      by_cases c25 : x7_2 < (y343.length : Int)
      ·rw [if_pos c25] at H
       have c25b0 : decide (x7_2 < (y343.length : Int)) = true := decide_eq_true c25
       clear c25
       by_cases c26 : 0 ≤ x7_2
       ·rw [if_pos c26] at H
        have c26b0 : decide (0 ≤ x7_2) = true := decide_eq_true c26
        clear c26
        have HC27 := Aside0.mk H
        clear H
        obtain ⟨Ao28, co28, eo28⟩ := Kd.R_slice HO_6.out
        subst eo28
        have p346 : 0 ≤ (x7_2 : Int) := of_decide_eq_true (by first | (with_reducible assumption) | assumption)
        have q346 : x7_2 < (y343.length : Int) := of_decide_eq_true (by first | (with_reducible assumption) | assumption)
        obtain ⟨ad346, e346, hx346_0, hx346_1, hx346_2, hx346_3, hx346_4⟩ := at_T23 (Kd.R_reads' HO_6.out).2.2 x7_2 p346 q346
        cases e346
        replace p346 := eq_true p346
        replace q346 := eq_true q346
        go_upto_region 8 with (first | ((with_reducible refine gate_dst (N := 8) rfl ?_); refine box_event ?hg (N := 8) ?hd (cs := #[.int .i64 0, .int .i64 0, .int .i64 0, .string (⟨#[]⟩ : ByteArray), .string (⟨#[]⟩ : ByteArray)]) (t := 23) ?hr ?_; (case hd => rfl); (case hg => rfl); (case hr => first | (go_simp; done) | (go_simp; rfl)); intro gb347 hg w29 hbox hb; have n0_ := Aside0.mk (Kd.R_below (Kd.R_elderB (by (with_reducible repeat (first | apply Kd.R_alloc | apply Kd.R_drewN | apply Kd.R_drew)); exact HO_6.out) gb347 (Nat.le_of_eq hg.symm)) hb); have n1_ := Aside0.mk (blk_below (g := gb340) (o := .cells #[.int .i64 a0_0, .int .i64 a0_1, .int .i64 a0_2, .string a0_3, .string a0_4] 23 (0, 0)) (by (with_reducible repeat (first | apply xN_ | apply xD_ | apply xA_)); exact BK340.out) hb); have n2_ := Aside0.mk (blk_below (g := gb341) (o := .cells #[.int .i64 x342000_2, .int .i64 x342001_2, .int .i64 x342002_2, .string x342003_2, .string x342004_2] 23 (0, 0)) (by (with_reducible repeat (first | apply xN_ | apply xD_ | apply xA_)); exact BK341.out) hb); have n3_ := Aside0.mk (below_step (by repeat (first | (with_reducible first | exact HB.out | apply yA_ | apply yN_ | apply yD_ | refine yS_ ?_ GE340.out | refine yS_ ?_ GE341.out) | exact HB.out)) hb); have n4_ := Aside0.mk (hbox); have n5_ := Aside0.mk ((by rw [hg]; exact (below_size (by repeat (first | (with_reducible first | exact HB.out | apply yA_ | apply yN_ | apply yD_ | refine yS_ ?_ GE340.out | refine yS_ ?_ GE341.out) | exact HB.out))) : w.heap.size ≤ gb347)); have n6_ := Aside0.mk ((by rw [hg]; exact (below_size (by repeat (first | (with_reducible first | exact HB.out | apply yA_ | apply yN_ | apply yD_ | refine yS_ ?_ GE340.out | refine yS_ ?_ GE341.out) | exact HB.out))) : w.heap.size ≤ gb347)); have n7_ := Aside0.mk ((by rw [hg]; exact Nat.ne_of_lt (blk_lt (g := gb340) (o := .cells #[.int .i64 a0_0, .int .i64 a0_1, .int .i64 a0_2, .string a0_3, .string a0_4] 23 (0, 0)) (by (with_reducible repeat (first | apply xN_ | apply xD_ | apply xA_)); exact BK340.out)) : gb340 ≠ gb347)); have n8_ := Aside0.mk ((by rw [hg]; exact Nat.ne_of_gt (blk_lt (g := gb340) (o := .cells #[.int .i64 a0_0, .int .i64 a0_1, .int .i64 a0_2, .string a0_3, .string a0_4] 23 (0, 0)) (by (with_reducible repeat (first | apply xN_ | apply xD_ | apply xA_)); exact BK340.out)) : gb347 ≠ gb340)); have n9_ := Aside0.mk ((by rw [hg]; exact Nat.ne_of_lt (blk_lt (g := gb341) (o := .cells #[.int .i64 x342000_2, .int .i64 x342001_2, .int .i64 x342002_2, .string x342003_2, .string x342004_2] 23 (0, 0)) (by (with_reducible repeat (first | apply xN_ | apply xD_ | apply xA_)); exact BK341.out)) : gb341 ≠ gb347)); have n10_ := Aside0.mk ((by rw [hg]; exact Nat.ne_of_gt (blk_lt (g := gb341) (o := .cells #[.int .i64 x342000_2, .int .i64 x342001_2, .int .i64 x342002_2, .string x342003_2, .string x342004_2] 23 (0, 0)) (by (with_reducible repeat (first | apply xN_ | apply xD_ | apply xA_)); exact BK341.out)) : gb347 ≠ gb341)); clear HO_6; clear BK340; clear BK341; clear HB; have HO_6 := n0_; have BK340 := n1_; have BK341 := n2_; have HB := n3_; have BK347 := n4_; have GW347 := n5_; have GE347 := n6_; have NB340_347 := n7_; have NB347_340 := n8_; have NB341_347 := n9_; have NB347_341 := n10_; clear n0_ n1_ n2_ n3_ n4_ n5_ n6_ n7_ n8_ n9_ n10_; clear hb hbox hg; have hnb30 := NB347_340.out; have hnc30 := NB340_347.out; have hnb31 := NB347_341.out; have hnc31 := NB341_347.out; have hcz32_0 : w29.cell? ⟨gb347, 0, none⟩ = some (.int .i64 0) := (xC_ BK347.out 0).trans rfl; have hcz32_1 : w29.cell? ⟨gb347, 1, none⟩ = some (.int .i64 0) := (xC_ BK347.out 1).trans rfl; have hcz32_2 : w29.cell? ⟨gb347, 2, none⟩ = some (.int .i64 0) := (xC_ BK347.out 2).trans rfl; have hcz32_3 : w29.cell? ⟨gb347, 3, none⟩ = some (.string (⟨#[]⟩ : ByteArray)) := (xC_ BK347.out 3).trans rfl; have hcz32_4 : w29.cell? ⟨gb347, 4, none⟩ = some (.string (⟨#[]⟩ : ByteArray)) := (xC_ BK347.out 4).trans rfl; have hfz32_0 := xF_ BK347.out 0; have hfz32_1 := xF_ BK347.out 1; have hfz32_2 := xF_ BK347.out 2; have hfz32_3 := xF_ BK347.out 3; have hfz32_4 := xF_ BK347.out 4))
        (try simp only [Act.put, List.setIfInBounds_toArray, List.set_cons_zero, List.set_cons_succ])
        go_cut [77] (fun v77 wc => ∃ (kq : Nat) (x77_26 : Bool), v77 = .bool x77_26 ∧ Aside0 (armadaref07_Bump.j2 kq a1 y343 x7_2 x77_26 a0_0 a0_1 a0_2 a0_3 a0_4 ((rd_T23 y343 x7_2).f0) ((rd_T23 y343 x7_2).f1) ((rd_T23 y343 x7_2).f2) ((rd_T23 y343 x7_2).f3) ((rd_T23 y343 x7_2).f4) = some (r1, r2, r3, r4, r5, r6)) ∧ Aside0 (kq ≤ k2) ∧ Aside0 (Kd.R k23 23 wc w.heap.size (fun k_ => k_ ≠ gb340 ∧ k_ ≠ gb341 ∧ k_ ≠ gb347) (.slice (some ad346) y343.length co28) y343) ∧ Aside0 (wc.heap[gb340]? = some (.cells #[.int .i64 a0_0, .int .i64 a0_1, .int .i64 a0_2, .string a0_3, .string a0_4] 23 (0, 0))) ∧ Aside0 (wc.heap[gb341]? = some (.cells #[.int .i64 x342000_2, .int .i64 x342001_2, .int .i64 x342002_2, .string x342003_2, .string x342004_2] 23 (0, 0))) ∧ Aside0 (wc.heap[gb347]? = some (.cells #[.int .i64 ((rd_T23 y343 x7_2).f0), .int .i64 ((rd_T23 y343 x7_2).f1), .int .i64 ((rd_T23 y343 x7_2).f2), .string ((rd_T23 y343 x7_2).f3), .string ((rd_T23 y343 x7_2).f4)] 23 (0, 0))) ∧ Aside0 (Below w.heap.size w wc))
        case first =>
         have H := HC27.out
         clear HC27
         by_cases c33 : a1 ≥ 2
         ·rw [if_pos c33] at H
          have c33b0 : decide (2 ≤ a1) = true := decide_eq_true c33
          clear c33
          (first | rw [c33b0] | (simp only [i64_w, i32_w]; rw [c33b0]) | skip)
          by_cases c34 : ((rd_T23 y343 x7_2).f2) = 0
          ·rw [if_pos c34] at H
           have c34b0 : (((rd_T23 y343 x7_2).f2) == 0) = true := beq_iff_eq.mpr c34
           have c34b1 : (((rd_T23 y343 x7_2).f2) != 0) = false := bne_eq_false_iff_eq.mpr c34
           clear c34
           by_cases c35 : a1 = 3
           ·rw [if_pos c35] at H
            have c35b0 : (a1 == 3) = true := beq_iff_eq.mpr c35
            have c35b1 : (a1 != 3) = false := bne_eq_false_iff_eq.mpr c35
            clear c35
            by_cases c36 : ((rd_T23 y343 x7_2).f1) = 0
            ·rw [if_pos c36] at H
             have c36b0 : (((rd_T23 y343 x7_2).f1) == 0) = true := beq_iff_eq.mpr c36
             have c36b1 : (((rd_T23 y343 x7_2).f1) != 0) = false := bne_eq_false_iff_eq.mpr c36
             clear c36
             replace H := Option.bind_eq_some_iff.mp H
             obtain ⟨t348, A370, H⟩ := H
             replace H : (armadaref07_Bump.j2 k2 a1 y343 x7_2 (!t348) a0_0 a0_1 a0_2 a0_3 a0_4 ((rd_T23 y343 x7_2).f0) ((rd_T23 y343 x7_2).f1) ((rd_T23 y343 x7_2).f2) ((rd_T23 y343 x7_2).f3) ((rd_T23 y343 x7_2).f4)) = some (r1, r2, r3, r4, r5, r6) := H
             have A37 := Aside0.mk A370
             clear A370
             have H' := Aside0.mk H
             clear H
             have hnb38 := NB347_340.out
             have hnc38 := NB340_347.out
             have hnb39 := NB347_341.out
             have hnc39 := NB341_347.out
             have hcz40_0 : w29.cell? ⟨gb347, 0, none⟩ = some (.int .i64 0) := (xC_ BK347.out 0).trans rfl
             have hcz40_1 : w29.cell? ⟨gb347, 1, none⟩ = some (.int .i64 0) := (xC_ BK347.out 1).trans rfl
             have hcz40_2 : w29.cell? ⟨gb347, 2, none⟩ = some (.int .i64 0) := (xC_ BK347.out 2).trans rfl
             have hcz40_3 : w29.cell? ⟨gb347, 3, none⟩ = some (.string (⟨#[]⟩ : ByteArray)) := (xC_ BK347.out 3).trans rfl
             have hcz40_4 : w29.cell? ⟨gb347, 4, none⟩ = some (.string (⟨#[]⟩ : ByteArray)) := (xC_ BK347.out 4).trans rfl
             have hfz40_0 := xF_ BK347.out 0
             have hfz40_1 := xF_ BK347.out 1
             have hfz40_2 := xF_ BK347.out 2
             have hfz40_3 := xF_ BK347.out 3
             have hfz40_4 := xF_ BK347.out 4
             go_wp2_with (first | (go_at_call 14; (with_reducible refine (armadaref07_Check.calls k2 ((rd_T23 y343 x7_2).f0) ((rd_T23 y343 x7_2).f1) ((rd_T23 y343 x7_2).f2) ((rd_T23 y343 x7_2).f3) ((rd_T23 y343 x7_2).f4) t348 _ A37.out).mono ?_); rintro e w41 ⟨rfl, hb⟩; have n0_ := Aside0.mk (Kd.R_below (by (with_reducible repeat (first | apply Kd.R_alloc | apply Kd.R_drewN | apply Kd.R_drew)); exact (Kd.R_mono (Kd.R_far (p := ⟨gb347, 4, none⟩) (Kd.R_far (p := ⟨gb347, 3, none⟩) (Kd.R_far (p := ⟨gb347, 2, none⟩) (Kd.R_far (p := ⟨gb347, 1, none⟩) (Kd.R_far (p := ⟨gb347, 0, none⟩) (Kd.R_mono HO_6.out (fun k_ hk => (⟨hk, hk.2⟩ : _ ∧ k_ ≠ gb347))) (fun _ hk => hk.2) (.int .i64 ((rd_T23 y343 x7_2).f0))) (fun _ hk => hk.2) (.int .i64 ((rd_T23 y343 x7_2).f1))) (fun _ hk => hk.2) (.int .i64 ((rd_T23 y343 x7_2).f2))) (fun _ hk => hk.2) (.string ((rd_T23 y343 x7_2).f3))) (fun _ hk => hk.2) (.string ((rd_T23 y343 x7_2).f4))) (fun _ h_ => h_.1))) hb); have n1_ := Aside0.mk (blk_below (g := gb340) (o := .cells #[.int .i64 a0_0, .int .i64 a0_1, .int .i64 a0_2, .string a0_3, .string a0_4] 23 (0, 0)) (by (with_reducible repeat (first | apply xN_ | apply xD_ | apply xA_)); refine xR_ ?_ NB340_347.out _; refine xR_ ?_ NB340_347.out _; refine xR_ ?_ NB340_347.out _; refine xR_ ?_ NB340_347.out _; refine xR_ ?_ NB340_347.out _; (with_reducible repeat (first | apply xN_ | apply xD_ | apply xA_)); exact BK340.out) hb); have n2_ := Aside0.mk (blk_below (g := gb341) (o := .cells #[.int .i64 x342000_2, .int .i64 x342001_2, .int .i64 x342002_2, .string x342003_2, .string x342004_2] 23 (0, 0)) (by (with_reducible repeat (first | apply xN_ | apply xD_ | apply xA_)); refine xR_ ?_ NB341_347.out _; refine xR_ ?_ NB341_347.out _; refine xR_ ?_ NB341_347.out _; refine xR_ ?_ NB341_347.out _; refine xR_ ?_ NB341_347.out _; (with_reducible repeat (first | apply xN_ | apply xD_ | apply xA_)); exact BK341.out) hb); have n3_ := Aside0.mk (blk_below (g := gb347) (o := .cells #[.int .i64 ((rd_T23 y343 x7_2).f0), .int .i64 ((rd_T23 y343 x7_2).f1), .int .i64 ((rd_T23 y343 x7_2).f2), .string ((rd_T23 y343 x7_2).f3), .string ((rd_T23 y343 x7_2).f4)] 23 (0, 0)) (by (with_reducible repeat (first | apply xN_ | apply xD_ | apply xA_)); refine blk_put (cs := #[.int .i64 ((rd_T23 y343 x7_2).f0), .int .i64 ((rd_T23 y343 x7_2).f1), .int .i64 ((rd_T23 y343 x7_2).f2), .string ((rd_T23 y343 x7_2).f3), .string (⟨#[]⟩ : ByteArray)]) ?_ 4 _ rfl; refine blk_put (cs := #[.int .i64 ((rd_T23 y343 x7_2).f0), .int .i64 ((rd_T23 y343 x7_2).f1), .int .i64 ((rd_T23 y343 x7_2).f2), .string (⟨#[]⟩ : ByteArray), .string (⟨#[]⟩ : ByteArray)]) ?_ 3 _ rfl; refine blk_put (cs := #[.int .i64 ((rd_T23 y343 x7_2).f0), .int .i64 ((rd_T23 y343 x7_2).f1), .int .i64 0, .string (⟨#[]⟩ : ByteArray), .string (⟨#[]⟩ : ByteArray)]) ?_ 2 _ rfl; refine blk_put (cs := #[.int .i64 ((rd_T23 y343 x7_2).f0), .int .i64 0, .int .i64 0, .string (⟨#[]⟩ : ByteArray), .string (⟨#[]⟩ : ByteArray)]) ?_ 1 _ rfl; refine blk_put (cs := #[.int .i64 0, .int .i64 0, .int .i64 0, .string (⟨#[]⟩ : ByteArray), .string (⟨#[]⟩ : ByteArray)]) ?_ 0 _ rfl; (with_reducible repeat (first | apply xN_ | apply xD_ | apply xA_)); exact BK347.out) hb); have n4_ := Aside0.mk (below_step (by repeat (first | (with_reducible first | exact HB.out | apply yA_ | apply yN_ | apply yD_ | refine yS_ ?_ GE340.out | refine yS_ ?_ GE341.out | refine yS_ ?_ GE347.out) | exact HB.out)) hb); clear HO_6; clear BK340; clear BK341; clear BK347; clear HB; have HO_6 := n0_; have BK340 := n1_; have BK341 := n2_; have BK347 := n3_; have HB := n4_; clear n0_ n1_ n2_ n3_ n4_; (try clear hb); (try clear hb2); (try clear hk); (try clear hi)))
             go_meet
             case rel => exact ⟨_, (!t348), (by first | rfl | (simp; done) | (simp [*]; done)), H', ⟨by have := HJ2.out; have := HK2.out; first | omega | exact Nat.le_refl _⟩, ⟨by (with_reducible repeat (first | apply Kd.R_alloc | apply Kd.R_drewN | apply Kd.R_drew)); exact Kd.R_mono HO_6.out (fun _ hk => ⟨hk.1.1, ⟨hk.1.2, hk.2⟩⟩)⟩, ⟨by (with_reducible repeat (first | apply xN_ | apply xD_ | apply xA_)); exact BK340.out⟩, ⟨by (with_reducible repeat (first | apply xN_ | apply xD_ | apply xA_)); exact BK341.out⟩, ⟨by (with_reducible repeat (first | apply xN_ | apply xD_ | apply xA_)); exact BK347.out⟩, ⟨by repeat (first | (with_reducible first | exact HB.out | apply yA_ | apply yN_ | apply yD_ | refine yS_ ?_ GE340.out | refine yS_ ?_ GE341.out | refine yS_ ?_ GE347.out) | exact HB.out)⟩⟩
            ·rw [if_neg c36] at H
             have c36b0 : (((rd_T23 y343 x7_2).f1) == 0) = false := beq_eq_false_iff_ne.mpr c36
             have c36b1 : (((rd_T23 y343 x7_2).f1) != 0) = true := bne_iff_ne.mpr c36
             have H' := Aside0.mk H
             clear H
             have hnb42 := NB347_340.out
             have hnc42 := NB340_347.out
             have hnb43 := NB347_341.out
             have hnc43 := NB341_347.out
             have hcz44_0 : w29.cell? ⟨gb347, 0, none⟩ = some (.int .i64 0) := (xC_ BK347.out 0).trans rfl
             have hcz44_1 : w29.cell? ⟨gb347, 1, none⟩ = some (.int .i64 0) := (xC_ BK347.out 1).trans rfl
             have hcz44_2 : w29.cell? ⟨gb347, 2, none⟩ = some (.int .i64 0) := (xC_ BK347.out 2).trans rfl
             have hcz44_3 : w29.cell? ⟨gb347, 3, none⟩ = some (.string (⟨#[]⟩ : ByteArray)) := (xC_ BK347.out 3).trans rfl
             have hcz44_4 : w29.cell? ⟨gb347, 4, none⟩ = some (.string (⟨#[]⟩ : ByteArray)) := (xC_ BK347.out 4).trans rfl
             have hfz44_0 := xF_ BK347.out 0
             have hfz44_1 := xF_ BK347.out 1
             have hfz44_2 := xF_ BK347.out 2
             have hfz44_3 := xF_ BK347.out 3
             have hfz44_4 := xF_ BK347.out 4
             go_wp2
             go_meet
             case rel => exact ⟨_, (true), (by first | rfl | (simp; done) | (simp [*]; done)), H', ⟨by have := HJ2.out; have := HK2.out; first | omega | exact Nat.le_refl _⟩, ⟨by (with_reducible repeat (first | apply Kd.R_alloc | apply Kd.R_drewN | apply Kd.R_drew)); exact Kd.R_mono (Kd.R_far (p := ⟨gb347, 4, none⟩) (Kd.R_far (p := ⟨gb347, 3, none⟩) (Kd.R_far (p := ⟨gb347, 2, none⟩) (Kd.R_far (p := ⟨gb347, 1, none⟩) (Kd.R_far (p := ⟨gb347, 0, none⟩) (Kd.R_mono HO_6.out (fun k_ hk => (⟨hk, hk.2⟩ : _ ∧ k_ ≠ gb347))) (fun _ hk => hk.2) (.int .i64 ((rd_T23 y343 x7_2).f0))) (fun _ hk => hk.2) (.int .i64 ((rd_T23 y343 x7_2).f1))) (fun _ hk => hk.2) (.int .i64 ((rd_T23 y343 x7_2).f2))) (fun _ hk => hk.2) (.string ((rd_T23 y343 x7_2).f3))) (fun _ hk => hk.2) (.string ((rd_T23 y343 x7_2).f4))) (fun _ hk => ⟨hk.1.1.1, ⟨hk.1.1.2, hk.1.2⟩⟩)⟩, ⟨by (with_reducible repeat (first | apply xN_ | apply xD_ | apply xA_)); refine xR_ ?_ NB340_347.out _; refine xR_ ?_ NB340_347.out _; refine xR_ ?_ NB340_347.out _; refine xR_ ?_ NB340_347.out _; refine xR_ ?_ NB340_347.out _; (with_reducible repeat (first | apply xN_ | apply xD_ | apply xA_)); exact BK340.out⟩, ⟨by (with_reducible repeat (first | apply xN_ | apply xD_ | apply xA_)); refine xR_ ?_ NB341_347.out _; refine xR_ ?_ NB341_347.out _; refine xR_ ?_ NB341_347.out _; refine xR_ ?_ NB341_347.out _; refine xR_ ?_ NB341_347.out _; (with_reducible repeat (first | apply xN_ | apply xD_ | apply xA_)); exact BK341.out⟩, ⟨by (with_reducible repeat (first | apply xN_ | apply xD_ | apply xA_)); refine blk_put (cs := #[.int .i64 ((rd_T23 y343 x7_2).f0), .int .i64 ((rd_T23 y343 x7_2).f1), .int .i64 ((rd_T23 y343 x7_2).f2), .string ((rd_T23 y343 x7_2).f3), .string (⟨#[]⟩ : ByteArray)]) ?_ 4 _ rfl; refine blk_put (cs := #[.int .i64 ((rd_T23 y343 x7_2).f0), .int .i64 ((rd_T23 y343 x7_2).f1), .int .i64 ((rd_T23 y343 x7_2).f2), .string (⟨#[]⟩ : ByteArray), .string (⟨#[]⟩ : ByteArray)]) ?_ 3 _ rfl; refine blk_put (cs := #[.int .i64 ((rd_T23 y343 x7_2).f0), .int .i64 ((rd_T23 y343 x7_2).f1), .int .i64 0, .string (⟨#[]⟩ : ByteArray), .string (⟨#[]⟩ : ByteArray)]) ?_ 2 _ rfl; refine blk_put (cs := #[.int .i64 ((rd_T23 y343 x7_2).f0), .int .i64 0, .int .i64 0, .string (⟨#[]⟩ : ByteArray), .string (⟨#[]⟩ : ByteArray)]) ?_ 1 _ rfl; refine blk_put (cs := #[.int .i64 0, .int .i64 0, .int .i64 0, .string (⟨#[]⟩ : ByteArray), .string (⟨#[]⟩ : ByteArray)]) ?_ 0 _ rfl; (with_reducible repeat (first | apply xN_ | apply xD_ | apply xA_)); exact BK347.out⟩, ⟨by repeat (first | (with_reducible first | exact HB.out | apply yA_ | apply yN_ | apply yD_ | refine yS_ ?_ GE340.out | refine yS_ ?_ GE341.out | refine yS_ ?_ GE347.out) | exact HB.out)⟩⟩
           ·rw [if_neg c35] at H
            have c35b0 : (a1 == 3) = false := beq_eq_false_iff_ne.mpr c35
            have c35b1 : (a1 != 3) = true := bne_iff_ne.mpr c35
            replace H := Option.bind_eq_some_iff.mp H
            obtain ⟨t349, A450, H⟩ := H
            replace H : (armadaref07_Bump.j2 k2 a1 y343 x7_2 (!t349) a0_0 a0_1 a0_2 a0_3 a0_4 ((rd_T23 y343 x7_2).f0) ((rd_T23 y343 x7_2).f1) ((rd_T23 y343 x7_2).f2) ((rd_T23 y343 x7_2).f3) ((rd_T23 y343 x7_2).f4)) = some (r1, r2, r3, r4, r5, r6) := H
            have A45 := Aside0.mk A450
            clear A450
            have H' := Aside0.mk H
            clear H
            have hnb46 := NB347_340.out
            have hnc46 := NB340_347.out
            have hnb47 := NB347_341.out
            have hnc47 := NB341_347.out
            have hcz48_0 : w29.cell? ⟨gb347, 0, none⟩ = some (.int .i64 0) := (xC_ BK347.out 0).trans rfl
            have hcz48_1 : w29.cell? ⟨gb347, 1, none⟩ = some (.int .i64 0) := (xC_ BK347.out 1).trans rfl
            have hcz48_2 : w29.cell? ⟨gb347, 2, none⟩ = some (.int .i64 0) := (xC_ BK347.out 2).trans rfl
            have hcz48_3 : w29.cell? ⟨gb347, 3, none⟩ = some (.string (⟨#[]⟩ : ByteArray)) := (xC_ BK347.out 3).trans rfl
            have hcz48_4 : w29.cell? ⟨gb347, 4, none⟩ = some (.string (⟨#[]⟩ : ByteArray)) := (xC_ BK347.out 4).trans rfl
            have hfz48_0 := xF_ BK347.out 0
            have hfz48_1 := xF_ BK347.out 1
            have hfz48_2 := xF_ BK347.out 2
            have hfz48_3 := xF_ BK347.out 3
            have hfz48_4 := xF_ BK347.out 4
            go_wp2_with (first | (go_at_call 14; (with_reducible refine (armadaref07_Check.calls k2 ((rd_T23 y343 x7_2).f0) ((rd_T23 y343 x7_2).f1) ((rd_T23 y343 x7_2).f2) ((rd_T23 y343 x7_2).f3) ((rd_T23 y343 x7_2).f4) t349 _ A45.out).mono ?_); rintro e w49 ⟨rfl, hb⟩; have n0_ := Aside0.mk (Kd.R_below (by (with_reducible repeat (first | apply Kd.R_alloc | apply Kd.R_drewN | apply Kd.R_drew)); exact (Kd.R_mono (Kd.R_far (p := ⟨gb347, 4, none⟩) (Kd.R_far (p := ⟨gb347, 3, none⟩) (Kd.R_far (p := ⟨gb347, 2, none⟩) (Kd.R_far (p := ⟨gb347, 1, none⟩) (Kd.R_far (p := ⟨gb347, 0, none⟩) (Kd.R_mono HO_6.out (fun k_ hk => (⟨hk, hk.2⟩ : _ ∧ k_ ≠ gb347))) (fun _ hk => hk.2) (.int .i64 ((rd_T23 y343 x7_2).f0))) (fun _ hk => hk.2) (.int .i64 ((rd_T23 y343 x7_2).f1))) (fun _ hk => hk.2) (.int .i64 ((rd_T23 y343 x7_2).f2))) (fun _ hk => hk.2) (.string ((rd_T23 y343 x7_2).f3))) (fun _ hk => hk.2) (.string ((rd_T23 y343 x7_2).f4))) (fun _ h_ => h_.1))) hb); have n1_ := Aside0.mk (blk_below (g := gb340) (o := .cells #[.int .i64 a0_0, .int .i64 a0_1, .int .i64 a0_2, .string a0_3, .string a0_4] 23 (0, 0)) (by (with_reducible repeat (first | apply xN_ | apply xD_ | apply xA_)); refine xR_ ?_ NB340_347.out _; refine xR_ ?_ NB340_347.out _; refine xR_ ?_ NB340_347.out _; refine xR_ ?_ NB340_347.out _; refine xR_ ?_ NB340_347.out _; (with_reducible repeat (first | apply xN_ | apply xD_ | apply xA_)); exact BK340.out) hb); have n2_ := Aside0.mk (blk_below (g := gb341) (o := .cells #[.int .i64 x342000_2, .int .i64 x342001_2, .int .i64 x342002_2, .string x342003_2, .string x342004_2] 23 (0, 0)) (by (with_reducible repeat (first | apply xN_ | apply xD_ | apply xA_)); refine xR_ ?_ NB341_347.out _; refine xR_ ?_ NB341_347.out _; refine xR_ ?_ NB341_347.out _; refine xR_ ?_ NB341_347.out _; refine xR_ ?_ NB341_347.out _; (with_reducible repeat (first | apply xN_ | apply xD_ | apply xA_)); exact BK341.out) hb); have n3_ := Aside0.mk (blk_below (g := gb347) (o := .cells #[.int .i64 ((rd_T23 y343 x7_2).f0), .int .i64 ((rd_T23 y343 x7_2).f1), .int .i64 ((rd_T23 y343 x7_2).f2), .string ((rd_T23 y343 x7_2).f3), .string ((rd_T23 y343 x7_2).f4)] 23 (0, 0)) (by (with_reducible repeat (first | apply xN_ | apply xD_ | apply xA_)); refine blk_put (cs := #[.int .i64 ((rd_T23 y343 x7_2).f0), .int .i64 ((rd_T23 y343 x7_2).f1), .int .i64 ((rd_T23 y343 x7_2).f2), .string ((rd_T23 y343 x7_2).f3), .string (⟨#[]⟩ : ByteArray)]) ?_ 4 _ rfl; refine blk_put (cs := #[.int .i64 ((rd_T23 y343 x7_2).f0), .int .i64 ((rd_T23 y343 x7_2).f1), .int .i64 ((rd_T23 y343 x7_2).f2), .string (⟨#[]⟩ : ByteArray), .string (⟨#[]⟩ : ByteArray)]) ?_ 3 _ rfl; refine blk_put (cs := #[.int .i64 ((rd_T23 y343 x7_2).f0), .int .i64 ((rd_T23 y343 x7_2).f1), .int .i64 0, .string (⟨#[]⟩ : ByteArray), .string (⟨#[]⟩ : ByteArray)]) ?_ 2 _ rfl; refine blk_put (cs := #[.int .i64 ((rd_T23 y343 x7_2).f0), .int .i64 0, .int .i64 0, .string (⟨#[]⟩ : ByteArray), .string (⟨#[]⟩ : ByteArray)]) ?_ 1 _ rfl; refine blk_put (cs := #[.int .i64 0, .int .i64 0, .int .i64 0, .string (⟨#[]⟩ : ByteArray), .string (⟨#[]⟩ : ByteArray)]) ?_ 0 _ rfl; (with_reducible repeat (first | apply xN_ | apply xD_ | apply xA_)); exact BK347.out) hb); have n4_ := Aside0.mk (below_step (by repeat (first | (with_reducible first | exact HB.out | apply yA_ | apply yN_ | apply yD_ | refine yS_ ?_ GE340.out | refine yS_ ?_ GE341.out | refine yS_ ?_ GE347.out) | exact HB.out)) hb); clear HO_6; clear BK340; clear BK341; clear BK347; clear HB; have HO_6 := n0_; have BK340 := n1_; have BK341 := n2_; have BK347 := n3_; have HB := n4_; clear n0_ n1_ n2_ n3_ n4_; (try clear hb); (try clear hb2); (try clear hk); (try clear hi)))
            go_meet
            case rel => exact ⟨_, (!t349), (by first | rfl | (simp; done) | (simp [*]; done)), H', ⟨by have := HJ2.out; have := HK2.out; first | omega | exact Nat.le_refl _⟩, ⟨by (with_reducible repeat (first | apply Kd.R_alloc | apply Kd.R_drewN | apply Kd.R_drew)); exact Kd.R_mono HO_6.out (fun _ hk => ⟨hk.1.1, ⟨hk.1.2, hk.2⟩⟩)⟩, ⟨by (with_reducible repeat (first | apply xN_ | apply xD_ | apply xA_)); exact BK340.out⟩, ⟨by (with_reducible repeat (first | apply xN_ | apply xD_ | apply xA_)); exact BK341.out⟩, ⟨by (with_reducible repeat (first | apply xN_ | apply xD_ | apply xA_)); exact BK347.out⟩, ⟨by repeat (first | (with_reducible first | exact HB.out | apply yA_ | apply yN_ | apply yD_ | refine yS_ ?_ GE340.out | refine yS_ ?_ GE341.out | refine yS_ ?_ GE347.out) | exact HB.out)⟩⟩
          ·rw [if_neg c34] at H
           have c34b0 : (((rd_T23 y343 x7_2).f2) == 0) = false := beq_eq_false_iff_ne.mpr c34
           have c34b1 : (((rd_T23 y343 x7_2).f2) != 0) = true := bne_iff_ne.mpr c34
           have H' := Aside0.mk H
           clear H
           have hnb50 := NB347_340.out
           have hnc50 := NB340_347.out
           have hnb51 := NB347_341.out
           have hnc51 := NB341_347.out
           have hcz52_0 : w29.cell? ⟨gb347, 0, none⟩ = some (.int .i64 0) := (xC_ BK347.out 0).trans rfl
           have hcz52_1 : w29.cell? ⟨gb347, 1, none⟩ = some (.int .i64 0) := (xC_ BK347.out 1).trans rfl
           have hcz52_2 : w29.cell? ⟨gb347, 2, none⟩ = some (.int .i64 0) := (xC_ BK347.out 2).trans rfl
           have hcz52_3 : w29.cell? ⟨gb347, 3, none⟩ = some (.string (⟨#[]⟩ : ByteArray)) := (xC_ BK347.out 3).trans rfl
           have hcz52_4 : w29.cell? ⟨gb347, 4, none⟩ = some (.string (⟨#[]⟩ : ByteArray)) := (xC_ BK347.out 4).trans rfl
           have hfz52_0 := xF_ BK347.out 0
           have hfz52_1 := xF_ BK347.out 1
           have hfz52_2 := xF_ BK347.out 2
           have hfz52_3 := xF_ BK347.out 3
           have hfz52_4 := xF_ BK347.out 4
           go_wp2
           go_meet
           case rel => exact ⟨_, (true), (by first | rfl | (simp; done) | (simp [*]; done)), H', ⟨by have := HJ2.out; have := HK2.out; first | omega | exact Nat.le_refl _⟩, ⟨by (with_reducible repeat (first | apply Kd.R_alloc | apply Kd.R_drewN | apply Kd.R_drew)); exact Kd.R_mono (Kd.R_far (p := ⟨gb347, 4, none⟩) (Kd.R_far (p := ⟨gb347, 3, none⟩) (Kd.R_far (p := ⟨gb347, 2, none⟩) (Kd.R_far (p := ⟨gb347, 1, none⟩) (Kd.R_far (p := ⟨gb347, 0, none⟩) (Kd.R_mono HO_6.out (fun k_ hk => (⟨hk, hk.2⟩ : _ ∧ k_ ≠ gb347))) (fun _ hk => hk.2) (.int .i64 ((rd_T23 y343 x7_2).f0))) (fun _ hk => hk.2) (.int .i64 ((rd_T23 y343 x7_2).f1))) (fun _ hk => hk.2) (.int .i64 ((rd_T23 y343 x7_2).f2))) (fun _ hk => hk.2) (.string ((rd_T23 y343 x7_2).f3))) (fun _ hk => hk.2) (.string ((rd_T23 y343 x7_2).f4))) (fun _ hk => ⟨hk.1.1.1, ⟨hk.1.1.2, hk.1.2⟩⟩)⟩, ⟨by (with_reducible repeat (first | apply xN_ | apply xD_ | apply xA_)); refine xR_ ?_ NB340_347.out _; refine xR_ ?_ NB340_347.out _; refine xR_ ?_ NB340_347.out _; refine xR_ ?_ NB340_347.out _; refine xR_ ?_ NB340_347.out _; (with_reducible repeat (first | apply xN_ | apply xD_ | apply xA_)); exact BK340.out⟩, ⟨by (with_reducible repeat (first | apply xN_ | apply xD_ | apply xA_)); refine xR_ ?_ NB341_347.out _; refine xR_ ?_ NB341_347.out _; refine xR_ ?_ NB341_347.out _; refine xR_ ?_ NB341_347.out _; refine xR_ ?_ NB341_347.out _; (with_reducible repeat (first | apply xN_ | apply xD_ | apply xA_)); exact BK341.out⟩, ⟨by (with_reducible repeat (first | apply xN_ | apply xD_ | apply xA_)); refine blk_put (cs := #[.int .i64 ((rd_T23 y343 x7_2).f0), .int .i64 ((rd_T23 y343 x7_2).f1), .int .i64 ((rd_T23 y343 x7_2).f2), .string ((rd_T23 y343 x7_2).f3), .string (⟨#[]⟩ : ByteArray)]) ?_ 4 _ rfl; refine blk_put (cs := #[.int .i64 ((rd_T23 y343 x7_2).f0), .int .i64 ((rd_T23 y343 x7_2).f1), .int .i64 ((rd_T23 y343 x7_2).f2), .string (⟨#[]⟩ : ByteArray), .string (⟨#[]⟩ : ByteArray)]) ?_ 3 _ rfl; refine blk_put (cs := #[.int .i64 ((rd_T23 y343 x7_2).f0), .int .i64 ((rd_T23 y343 x7_2).f1), .int .i64 0, .string (⟨#[]⟩ : ByteArray), .string (⟨#[]⟩ : ByteArray)]) ?_ 2 _ rfl; refine blk_put (cs := #[.int .i64 ((rd_T23 y343 x7_2).f0), .int .i64 0, .int .i64 0, .string (⟨#[]⟩ : ByteArray), .string (⟨#[]⟩ : ByteArray)]) ?_ 1 _ rfl; refine blk_put (cs := #[.int .i64 0, .int .i64 0, .int .i64 0, .string (⟨#[]⟩ : ByteArray), .string (⟨#[]⟩ : ByteArray)]) ?_ 0 _ rfl; (with_reducible repeat (first | apply xN_ | apply xD_ | apply xA_)); exact BK347.out⟩, ⟨by repeat (first | (with_reducible first | exact HB.out | apply yA_ | apply yN_ | apply yD_ | refine yS_ ?_ GE340.out | refine yS_ ?_ GE341.out | refine yS_ ?_ GE347.out) | exact HB.out)⟩⟩
         ·rw [if_neg c33] at H
          have c33b0 : decide (2 ≤ a1) = false := decide_eq_false c33
          clear c33
          (first | rw [c33b0] | (simp only [i64_w, i32_w]; rw [c33b0]) | skip)
          by_cases c53 : a1 = 3
          ·rw [if_pos c53] at H
           have c53b0 : (a1 == 3) = true := beq_iff_eq.mpr c53
           have c53b1 : (a1 != 3) = false := bne_eq_false_iff_eq.mpr c53
           clear c53
           by_cases c54 : ((rd_T23 y343 x7_2).f1) = 0
           ·rw [if_pos c54] at H
            have c54b0 : (((rd_T23 y343 x7_2).f1) == 0) = true := beq_iff_eq.mpr c54
            have c54b1 : (((rd_T23 y343 x7_2).f1) != 0) = false := bne_eq_false_iff_eq.mpr c54
            clear c54
            replace H := Option.bind_eq_some_iff.mp H
            obtain ⟨t350, A550, H⟩ := H
            replace H : (armadaref07_Bump.j2 k2 a1 y343 x7_2 (!t350) a0_0 a0_1 a0_2 a0_3 a0_4 ((rd_T23 y343 x7_2).f0) ((rd_T23 y343 x7_2).f1) ((rd_T23 y343 x7_2).f2) ((rd_T23 y343 x7_2).f3) ((rd_T23 y343 x7_2).f4)) = some (r1, r2, r3, r4, r5, r6) := H
            have A55 := Aside0.mk A550
            clear A550
            have H' := Aside0.mk H
            clear H
            have hnb56 := NB347_340.out
            have hnc56 := NB340_347.out
            have hnb57 := NB347_341.out
            have hnc57 := NB341_347.out
            have hcz58_0 : w29.cell? ⟨gb347, 0, none⟩ = some (.int .i64 0) := (xC_ BK347.out 0).trans rfl
            have hcz58_1 : w29.cell? ⟨gb347, 1, none⟩ = some (.int .i64 0) := (xC_ BK347.out 1).trans rfl
            have hcz58_2 : w29.cell? ⟨gb347, 2, none⟩ = some (.int .i64 0) := (xC_ BK347.out 2).trans rfl
            have hcz58_3 : w29.cell? ⟨gb347, 3, none⟩ = some (.string (⟨#[]⟩ : ByteArray)) := (xC_ BK347.out 3).trans rfl
            have hcz58_4 : w29.cell? ⟨gb347, 4, none⟩ = some (.string (⟨#[]⟩ : ByteArray)) := (xC_ BK347.out 4).trans rfl
            have hfz58_0 := xF_ BK347.out 0
            have hfz58_1 := xF_ BK347.out 1
            have hfz58_2 := xF_ BK347.out 2
            have hfz58_3 := xF_ BK347.out 3
            have hfz58_4 := xF_ BK347.out 4
            go_wp2_with (first | (go_at_call 14; (with_reducible refine (armadaref07_Check.calls k2 ((rd_T23 y343 x7_2).f0) ((rd_T23 y343 x7_2).f1) ((rd_T23 y343 x7_2).f2) ((rd_T23 y343 x7_2).f3) ((rd_T23 y343 x7_2).f4) t350 _ A55.out).mono ?_); rintro e w59 ⟨rfl, hb⟩; have n0_ := Aside0.mk (Kd.R_below (by (with_reducible repeat (first | apply Kd.R_alloc | apply Kd.R_drewN | apply Kd.R_drew)); exact (Kd.R_mono (Kd.R_far (p := ⟨gb347, 4, none⟩) (Kd.R_far (p := ⟨gb347, 3, none⟩) (Kd.R_far (p := ⟨gb347, 2, none⟩) (Kd.R_far (p := ⟨gb347, 1, none⟩) (Kd.R_far (p := ⟨gb347, 0, none⟩) (Kd.R_mono HO_6.out (fun k_ hk => (⟨hk, hk.2⟩ : _ ∧ k_ ≠ gb347))) (fun _ hk => hk.2) (.int .i64 ((rd_T23 y343 x7_2).f0))) (fun _ hk => hk.2) (.int .i64 ((rd_T23 y343 x7_2).f1))) (fun _ hk => hk.2) (.int .i64 ((rd_T23 y343 x7_2).f2))) (fun _ hk => hk.2) (.string ((rd_T23 y343 x7_2).f3))) (fun _ hk => hk.2) (.string ((rd_T23 y343 x7_2).f4))) (fun _ h_ => h_.1))) hb); have n1_ := Aside0.mk (blk_below (g := gb340) (o := .cells #[.int .i64 a0_0, .int .i64 a0_1, .int .i64 a0_2, .string a0_3, .string a0_4] 23 (0, 0)) (by (with_reducible repeat (first | apply xN_ | apply xD_ | apply xA_)); refine xR_ ?_ NB340_347.out _; refine xR_ ?_ NB340_347.out _; refine xR_ ?_ NB340_347.out _; refine xR_ ?_ NB340_347.out _; refine xR_ ?_ NB340_347.out _; (with_reducible repeat (first | apply xN_ | apply xD_ | apply xA_)); exact BK340.out) hb); have n2_ := Aside0.mk (blk_below (g := gb341) (o := .cells #[.int .i64 x342000_2, .int .i64 x342001_2, .int .i64 x342002_2, .string x342003_2, .string x342004_2] 23 (0, 0)) (by (with_reducible repeat (first | apply xN_ | apply xD_ | apply xA_)); refine xR_ ?_ NB341_347.out _; refine xR_ ?_ NB341_347.out _; refine xR_ ?_ NB341_347.out _; refine xR_ ?_ NB341_347.out _; refine xR_ ?_ NB341_347.out _; (with_reducible repeat (first | apply xN_ | apply xD_ | apply xA_)); exact BK341.out) hb); have n3_ := Aside0.mk (blk_below (g := gb347) (o := .cells #[.int .i64 ((rd_T23 y343 x7_2).f0), .int .i64 ((rd_T23 y343 x7_2).f1), .int .i64 ((rd_T23 y343 x7_2).f2), .string ((rd_T23 y343 x7_2).f3), .string ((rd_T23 y343 x7_2).f4)] 23 (0, 0)) (by (with_reducible repeat (first | apply xN_ | apply xD_ | apply xA_)); refine blk_put (cs := #[.int .i64 ((rd_T23 y343 x7_2).f0), .int .i64 ((rd_T23 y343 x7_2).f1), .int .i64 ((rd_T23 y343 x7_2).f2), .string ((rd_T23 y343 x7_2).f3), .string (⟨#[]⟩ : ByteArray)]) ?_ 4 _ rfl; refine blk_put (cs := #[.int .i64 ((rd_T23 y343 x7_2).f0), .int .i64 ((rd_T23 y343 x7_2).f1), .int .i64 ((rd_T23 y343 x7_2).f2), .string (⟨#[]⟩ : ByteArray), .string (⟨#[]⟩ : ByteArray)]) ?_ 3 _ rfl; refine blk_put (cs := #[.int .i64 ((rd_T23 y343 x7_2).f0), .int .i64 ((rd_T23 y343 x7_2).f1), .int .i64 0, .string (⟨#[]⟩ : ByteArray), .string (⟨#[]⟩ : ByteArray)]) ?_ 2 _ rfl; refine blk_put (cs := #[.int .i64 ((rd_T23 y343 x7_2).f0), .int .i64 0, .int .i64 0, .string (⟨#[]⟩ : ByteArray), .string (⟨#[]⟩ : ByteArray)]) ?_ 1 _ rfl; refine blk_put (cs := #[.int .i64 0, .int .i64 0, .int .i64 0, .string (⟨#[]⟩ : ByteArray), .string (⟨#[]⟩ : ByteArray)]) ?_ 0 _ rfl; (with_reducible repeat (first | apply xN_ | apply xD_ | apply xA_)); exact BK347.out) hb); have n4_ := Aside0.mk (below_step (by repeat (first | (with_reducible first | exact HB.out | apply yA_ | apply yN_ | apply yD_ | refine yS_ ?_ GE340.out | refine yS_ ?_ GE341.out | refine yS_ ?_ GE347.out) | exact HB.out)) hb); clear HO_6; clear BK340; clear BK341; clear BK347; clear HB; have HO_6 := n0_; have BK340 := n1_; have BK341 := n2_; have BK347 := n3_; have HB := n4_; clear n0_ n1_ n2_ n3_ n4_; (try clear hb); (try clear hb2); (try clear hk); (try clear hi)))
            go_meet
            case rel => exact ⟨_, (!t350), (by first | rfl | (simp; done) | (simp [*]; done)), H', ⟨by have := HJ2.out; have := HK2.out; first | omega | exact Nat.le_refl _⟩, ⟨by (with_reducible repeat (first | apply Kd.R_alloc | apply Kd.R_drewN | apply Kd.R_drew)); exact Kd.R_mono HO_6.out (fun _ hk => ⟨hk.1.1, ⟨hk.1.2, hk.2⟩⟩)⟩, ⟨by (with_reducible repeat (first | apply xN_ | apply xD_ | apply xA_)); exact BK340.out⟩, ⟨by (with_reducible repeat (first | apply xN_ | apply xD_ | apply xA_)); exact BK341.out⟩, ⟨by (with_reducible repeat (first | apply xN_ | apply xD_ | apply xA_)); exact BK347.out⟩, ⟨by repeat (first | (with_reducible first | exact HB.out | apply yA_ | apply yN_ | apply yD_ | refine yS_ ?_ GE340.out | refine yS_ ?_ GE341.out | refine yS_ ?_ GE347.out) | exact HB.out)⟩⟩
           ·rw [if_neg c54] at H
            have c54b0 : (((rd_T23 y343 x7_2).f1) == 0) = false := beq_eq_false_iff_ne.mpr c54
            have c54b1 : (((rd_T23 y343 x7_2).f1) != 0) = true := bne_iff_ne.mpr c54
            have H' := Aside0.mk H
            clear H
            have hnb60 := NB347_340.out
            have hnc60 := NB340_347.out
            have hnb61 := NB347_341.out
            have hnc61 := NB341_347.out
            have hcz62_0 : w29.cell? ⟨gb347, 0, none⟩ = some (.int .i64 0) := (xC_ BK347.out 0).trans rfl
            have hcz62_1 : w29.cell? ⟨gb347, 1, none⟩ = some (.int .i64 0) := (xC_ BK347.out 1).trans rfl
            have hcz62_2 : w29.cell? ⟨gb347, 2, none⟩ = some (.int .i64 0) := (xC_ BK347.out 2).trans rfl
            have hcz62_3 : w29.cell? ⟨gb347, 3, none⟩ = some (.string (⟨#[]⟩ : ByteArray)) := (xC_ BK347.out 3).trans rfl
            have hcz62_4 : w29.cell? ⟨gb347, 4, none⟩ = some (.string (⟨#[]⟩ : ByteArray)) := (xC_ BK347.out 4).trans rfl
            have hfz62_0 := xF_ BK347.out 0
            have hfz62_1 := xF_ BK347.out 1
            have hfz62_2 := xF_ BK347.out 2
            have hfz62_3 := xF_ BK347.out 3
            have hfz62_4 := xF_ BK347.out 4
            go_wp2
            go_meet
            case rel => exact ⟨_, (true), (by first | rfl | (simp; done) | (simp [*]; done)), H', ⟨by have := HJ2.out; have := HK2.out; first | omega | exact Nat.le_refl _⟩, ⟨by (with_reducible repeat (first | apply Kd.R_alloc | apply Kd.R_drewN | apply Kd.R_drew)); exact Kd.R_mono (Kd.R_far (p := ⟨gb347, 4, none⟩) (Kd.R_far (p := ⟨gb347, 3, none⟩) (Kd.R_far (p := ⟨gb347, 2, none⟩) (Kd.R_far (p := ⟨gb347, 1, none⟩) (Kd.R_far (p := ⟨gb347, 0, none⟩) (Kd.R_mono HO_6.out (fun k_ hk => (⟨hk, hk.2⟩ : _ ∧ k_ ≠ gb347))) (fun _ hk => hk.2) (.int .i64 ((rd_T23 y343 x7_2).f0))) (fun _ hk => hk.2) (.int .i64 ((rd_T23 y343 x7_2).f1))) (fun _ hk => hk.2) (.int .i64 ((rd_T23 y343 x7_2).f2))) (fun _ hk => hk.2) (.string ((rd_T23 y343 x7_2).f3))) (fun _ hk => hk.2) (.string ((rd_T23 y343 x7_2).f4))) (fun _ hk => ⟨hk.1.1.1, ⟨hk.1.1.2, hk.1.2⟩⟩)⟩, ⟨by (with_reducible repeat (first | apply xN_ | apply xD_ | apply xA_)); refine xR_ ?_ NB340_347.out _; refine xR_ ?_ NB340_347.out _; refine xR_ ?_ NB340_347.out _; refine xR_ ?_ NB340_347.out _; refine xR_ ?_ NB340_347.out _; (with_reducible repeat (first | apply xN_ | apply xD_ | apply xA_)); exact BK340.out⟩, ⟨by (with_reducible repeat (first | apply xN_ | apply xD_ | apply xA_)); refine xR_ ?_ NB341_347.out _; refine xR_ ?_ NB341_347.out _; refine xR_ ?_ NB341_347.out _; refine xR_ ?_ NB341_347.out _; refine xR_ ?_ NB341_347.out _; (with_reducible repeat (first | apply xN_ | apply xD_ | apply xA_)); exact BK341.out⟩, ⟨by (with_reducible repeat (first | apply xN_ | apply xD_ | apply xA_)); refine blk_put (cs := #[.int .i64 ((rd_T23 y343 x7_2).f0), .int .i64 ((rd_T23 y343 x7_2).f1), .int .i64 ((rd_T23 y343 x7_2).f2), .string ((rd_T23 y343 x7_2).f3), .string (⟨#[]⟩ : ByteArray)]) ?_ 4 _ rfl; refine blk_put (cs := #[.int .i64 ((rd_T23 y343 x7_2).f0), .int .i64 ((rd_T23 y343 x7_2).f1), .int .i64 ((rd_T23 y343 x7_2).f2), .string (⟨#[]⟩ : ByteArray), .string (⟨#[]⟩ : ByteArray)]) ?_ 3 _ rfl; refine blk_put (cs := #[.int .i64 ((rd_T23 y343 x7_2).f0), .int .i64 ((rd_T23 y343 x7_2).f1), .int .i64 0, .string (⟨#[]⟩ : ByteArray), .string (⟨#[]⟩ : ByteArray)]) ?_ 2 _ rfl; refine blk_put (cs := #[.int .i64 ((rd_T23 y343 x7_2).f0), .int .i64 0, .int .i64 0, .string (⟨#[]⟩ : ByteArray), .string (⟨#[]⟩ : ByteArray)]) ?_ 1 _ rfl; refine blk_put (cs := #[.int .i64 0, .int .i64 0, .int .i64 0, .string (⟨#[]⟩ : ByteArray), .string (⟨#[]⟩ : ByteArray)]) ?_ 0 _ rfl; (with_reducible repeat (first | apply xN_ | apply xD_ | apply xA_)); exact BK347.out⟩, ⟨by repeat (first | (with_reducible first | exact HB.out | apply yA_ | apply yN_ | apply yD_ | refine yS_ ?_ GE340.out | refine yS_ ?_ GE341.out | refine yS_ ?_ GE347.out) | exact HB.out)⟩⟩
          ·rw [if_neg c53] at H
           have c53b0 : (a1 == 3) = false := beq_eq_false_iff_ne.mpr c53
           have c53b1 : (a1 != 3) = true := bne_iff_ne.mpr c53
           replace H := Option.bind_eq_some_iff.mp H
           obtain ⟨t351, A630, H⟩ := H
           replace H : (armadaref07_Bump.j2 k2 a1 y343 x7_2 (!t351) a0_0 a0_1 a0_2 a0_3 a0_4 ((rd_T23 y343 x7_2).f0) ((rd_T23 y343 x7_2).f1) ((rd_T23 y343 x7_2).f2) ((rd_T23 y343 x7_2).f3) ((rd_T23 y343 x7_2).f4)) = some (r1, r2, r3, r4, r5, r6) := H
           have A63 := Aside0.mk A630
           clear A630
           have H' := Aside0.mk H
           clear H
           have hnb64 := NB347_340.out
           have hnc64 := NB340_347.out
           have hnb65 := NB347_341.out
           have hnc65 := NB341_347.out
           have hcz66_0 : w29.cell? ⟨gb347, 0, none⟩ = some (.int .i64 0) := (xC_ BK347.out 0).trans rfl
           have hcz66_1 : w29.cell? ⟨gb347, 1, none⟩ = some (.int .i64 0) := (xC_ BK347.out 1).trans rfl
           have hcz66_2 : w29.cell? ⟨gb347, 2, none⟩ = some (.int .i64 0) := (xC_ BK347.out 2).trans rfl
           have hcz66_3 : w29.cell? ⟨gb347, 3, none⟩ = some (.string (⟨#[]⟩ : ByteArray)) := (xC_ BK347.out 3).trans rfl
           have hcz66_4 : w29.cell? ⟨gb347, 4, none⟩ = some (.string (⟨#[]⟩ : ByteArray)) := (xC_ BK347.out 4).trans rfl
           have hfz66_0 := xF_ BK347.out 0
           have hfz66_1 := xF_ BK347.out 1
           have hfz66_2 := xF_ BK347.out 2
           have hfz66_3 := xF_ BK347.out 3
           have hfz66_4 := xF_ BK347.out 4
           go_wp2_with (first | (go_at_call 14; (with_reducible refine (armadaref07_Check.calls k2 ((rd_T23 y343 x7_2).f0) ((rd_T23 y343 x7_2).f1) ((rd_T23 y343 x7_2).f2) ((rd_T23 y343 x7_2).f3) ((rd_T23 y343 x7_2).f4) t351 _ A63.out).mono ?_); rintro e w67 ⟨rfl, hb⟩; have n0_ := Aside0.mk (Kd.R_below (by (with_reducible repeat (first | apply Kd.R_alloc | apply Kd.R_drewN | apply Kd.R_drew)); exact (Kd.R_mono (Kd.R_far (p := ⟨gb347, 4, none⟩) (Kd.R_far (p := ⟨gb347, 3, none⟩) (Kd.R_far (p := ⟨gb347, 2, none⟩) (Kd.R_far (p := ⟨gb347, 1, none⟩) (Kd.R_far (p := ⟨gb347, 0, none⟩) (Kd.R_mono HO_6.out (fun k_ hk => (⟨hk, hk.2⟩ : _ ∧ k_ ≠ gb347))) (fun _ hk => hk.2) (.int .i64 ((rd_T23 y343 x7_2).f0))) (fun _ hk => hk.2) (.int .i64 ((rd_T23 y343 x7_2).f1))) (fun _ hk => hk.2) (.int .i64 ((rd_T23 y343 x7_2).f2))) (fun _ hk => hk.2) (.string ((rd_T23 y343 x7_2).f3))) (fun _ hk => hk.2) (.string ((rd_T23 y343 x7_2).f4))) (fun _ h_ => h_.1))) hb); have n1_ := Aside0.mk (blk_below (g := gb340) (o := .cells #[.int .i64 a0_0, .int .i64 a0_1, .int .i64 a0_2, .string a0_3, .string a0_4] 23 (0, 0)) (by (with_reducible repeat (first | apply xN_ | apply xD_ | apply xA_)); refine xR_ ?_ NB340_347.out _; refine xR_ ?_ NB340_347.out _; refine xR_ ?_ NB340_347.out _; refine xR_ ?_ NB340_347.out _; refine xR_ ?_ NB340_347.out _; (with_reducible repeat (first | apply xN_ | apply xD_ | apply xA_)); exact BK340.out) hb); have n2_ := Aside0.mk (blk_below (g := gb341) (o := .cells #[.int .i64 x342000_2, .int .i64 x342001_2, .int .i64 x342002_2, .string x342003_2, .string x342004_2] 23 (0, 0)) (by (with_reducible repeat (first | apply xN_ | apply xD_ | apply xA_)); refine xR_ ?_ NB341_347.out _; refine xR_ ?_ NB341_347.out _; refine xR_ ?_ NB341_347.out _; refine xR_ ?_ NB341_347.out _; refine xR_ ?_ NB341_347.out _; (with_reducible repeat (first | apply xN_ | apply xD_ | apply xA_)); exact BK341.out) hb); have n3_ := Aside0.mk (blk_below (g := gb347) (o := .cells #[.int .i64 ((rd_T23 y343 x7_2).f0), .int .i64 ((rd_T23 y343 x7_2).f1), .int .i64 ((rd_T23 y343 x7_2).f2), .string ((rd_T23 y343 x7_2).f3), .string ((rd_T23 y343 x7_2).f4)] 23 (0, 0)) (by (with_reducible repeat (first | apply xN_ | apply xD_ | apply xA_)); refine blk_put (cs := #[.int .i64 ((rd_T23 y343 x7_2).f0), .int .i64 ((rd_T23 y343 x7_2).f1), .int .i64 ((rd_T23 y343 x7_2).f2), .string ((rd_T23 y343 x7_2).f3), .string (⟨#[]⟩ : ByteArray)]) ?_ 4 _ rfl; refine blk_put (cs := #[.int .i64 ((rd_T23 y343 x7_2).f0), .int .i64 ((rd_T23 y343 x7_2).f1), .int .i64 ((rd_T23 y343 x7_2).f2), .string (⟨#[]⟩ : ByteArray), .string (⟨#[]⟩ : ByteArray)]) ?_ 3 _ rfl; refine blk_put (cs := #[.int .i64 ((rd_T23 y343 x7_2).f0), .int .i64 ((rd_T23 y343 x7_2).f1), .int .i64 0, .string (⟨#[]⟩ : ByteArray), .string (⟨#[]⟩ : ByteArray)]) ?_ 2 _ rfl; refine blk_put (cs := #[.int .i64 ((rd_T23 y343 x7_2).f0), .int .i64 0, .int .i64 0, .string (⟨#[]⟩ : ByteArray), .string (⟨#[]⟩ : ByteArray)]) ?_ 1 _ rfl; refine blk_put (cs := #[.int .i64 0, .int .i64 0, .int .i64 0, .string (⟨#[]⟩ : ByteArray), .string (⟨#[]⟩ : ByteArray)]) ?_ 0 _ rfl; (with_reducible repeat (first | apply xN_ | apply xD_ | apply xA_)); exact BK347.out) hb); have n4_ := Aside0.mk (below_step (by repeat (first | (with_reducible first | exact HB.out | apply yA_ | apply yN_ | apply yD_ | refine yS_ ?_ GE340.out | refine yS_ ?_ GE341.out | refine yS_ ?_ GE347.out) | exact HB.out)) hb); clear HO_6; clear BK340; clear BK341; clear BK347; clear HB; have HO_6 := n0_; have BK340 := n1_; have BK341 := n2_; have BK347 := n3_; have HB := n4_; clear n0_ n1_ n2_ n3_ n4_; (try clear hb); (try clear hb2); (try clear hk); (try clear hi)))
           go_meet
           case rel => exact ⟨_, (!t351), (by first | rfl | (simp; done) | (simp [*]; done)), H', ⟨by have := HJ2.out; have := HK2.out; first | omega | exact Nat.le_refl _⟩, ⟨by (with_reducible repeat (first | apply Kd.R_alloc | apply Kd.R_drewN | apply Kd.R_drew)); exact Kd.R_mono HO_6.out (fun _ hk => ⟨hk.1.1, ⟨hk.1.2, hk.2⟩⟩)⟩, ⟨by (with_reducible repeat (first | apply xN_ | apply xD_ | apply xA_)); exact BK340.out⟩, ⟨by (with_reducible repeat (first | apply xN_ | apply xD_ | apply xA_)); exact BK341.out⟩, ⟨by (with_reducible repeat (first | apply xN_ | apply xD_ | apply xA_)); exact BK347.out⟩, ⟨by repeat (first | (with_reducible first | exact HB.out | apply yA_ | apply yN_ | apply yD_ | refine yS_ ?_ GE340.out | refine yS_ ?_ GE341.out | refine yS_ ?_ GE347.out) | exact HB.out)⟩⟩
        case rest =>
         clear HC27
         (try clear c1); (try clear c2); (try clear p2); (try clear c3); (try clear p3); (try clear q3); (try clear hx3); (try clear c4); (try clear c5); (try clear c6)
         (try clear p6); (try clear c7); (try clear c8); (try clear c8b0); (try clear c9); (try clear c12); (try clear c14); (try clear c15); (try clear c18); (try clear c19)
         (try clear c21); (try clear c25); (try clear c25b0); (try clear c26); (try clear c26b0); (try clear c30); (try clear c31); (try clear c33); (try clear c33b0)
         (try clear c34); (try clear c34b0); (try clear c34b1); (try clear p34); (try clear q34); (try clear hx34); (try clear c35); (try clear c35b0); (try clear c35b1)
         (try clear c36); (try clear c36b0); (try clear c36b1); (try clear c38); (try clear c39); (try clear c42); (try clear c43); (try clear c46); (try clear c47)
         (try clear c50); (try clear c51); (try clear c53); (try clear c53b0); (try clear c53b1); (try clear c54); (try clear c54b0); (try clear c54b1); (try clear c56)
         (try clear c57); (try clear c60); (try clear c61); (try clear c64); (try clear p64); (try clear c65); (try clear hcz10_0); (try clear hcz10_1); (try clear hcz10_2)
         (try clear hcz10_3); (try clear hcz10_4); (try clear hcz13_0); (try clear hcz13_1); (try clear hcz13_2); (try clear hcz13_3); (try clear hcz13_4); (try clear hcz16_0)
         (try clear hcz16_1); (try clear hcz16_2); (try clear hcz16_3); (try clear hcz16_4); (try clear hcz20_0); (try clear hcz20_1); (try clear hcz20_2); (try clear hcz20_3)
         (try clear hcz20_4); (try clear hcz22_0); (try clear hcz22_1); (try clear hcz22_2); (try clear hcz22_3); (try clear hcz22_4); (try clear hcz32_0); (try clear hcz32_1)
         (try clear hcz32_2); (try clear hcz32_3); (try clear hcz32_4); (try clear hcz40_0); (try clear hcz40_1); (try clear hcz40_2); (try clear hcz40_3); (try clear hcz40_4)
         (try clear hcz44_0); (try clear hcz44_1); (try clear hcz44_2); (try clear hcz44_3); (try clear hcz44_4); (try clear hcz48_0); (try clear hcz48_1); (try clear hcz48_2)
         (try clear hcz48_3); (try clear hcz48_4); (try clear hcz52_0); (try clear hcz52_1); (try clear hcz52_2); (try clear hcz52_3); (try clear hcz52_4); (try clear hcz58_0)
         (try clear hcz58_1); (try clear hcz58_2); (try clear hcz58_3); (try clear hcz58_4); (try clear hcz62_0); (try clear hcz62_1); (try clear hcz62_2); (try clear hcz62_3)
         (try clear hcz62_4); (try clear hcz66_0); (try clear hcz66_1); (try clear hcz66_2); (try clear hcz66_3); (try clear hcz66_4); (try clear hfz10_0); (try clear hfz10_1)
         (try clear hfz10_2); (try clear hfz10_3); (try clear hfz10_4); (try clear hfz13_0); (try clear hfz13_1); (try clear hfz13_2); (try clear hfz13_3); (try clear hfz13_4)
         (try clear hfz16_0); (try clear hfz16_1); (try clear hfz16_2); (try clear hfz16_3); (try clear hfz16_4); (try clear hfz20_0); (try clear hfz20_1); (try clear hfz20_2)
         (try clear hfz20_3); (try clear hfz20_4); (try clear hfz22_0); (try clear hfz22_1); (try clear hfz22_2); (try clear hfz22_3); (try clear hfz22_4); (try clear hfz32_0)
         (try clear hfz32_1); (try clear hfz32_2); (try clear hfz32_3); (try clear hfz32_4); (try clear hfz40_0); (try clear hfz40_1); (try clear hfz40_2); (try clear hfz40_3)
         (try clear hfz40_4); (try clear hfz44_0); (try clear hfz44_1); (try clear hfz44_2); (try clear hfz44_3); (try clear hfz44_4); (try clear hfz48_0); (try clear hfz48_1)
         (try clear hfz48_2); (try clear hfz48_3); (try clear hfz48_4); (try clear hfz52_0); (try clear hfz52_1); (try clear hfz52_2); (try clear hfz52_3); (try clear hfz52_4)
         (try clear hfz58_0); (try clear hfz58_1); (try clear hfz58_2); (try clear hfz58_3); (try clear hfz58_4); (try clear hfz62_0); (try clear hfz62_1); (try clear hfz62_2)
         (try clear hfz62_3); (try clear hfz62_4); (try clear hfz66_0); (try clear hfz66_1); (try clear hfz66_2); (try clear hfz66_3); (try clear hfz66_4); (try clear hx346_0)
         (try clear hx346_1); (try clear hx346_2); (try clear hx346_3); (try clear hx346_4); (try clear p2); (try clear p346); (try clear p6); (try clear q346)
         obtain ⟨kq, x77_26, rfl, HA, HJ26, HO_6, BK340, BK341, BK347, HB⟩ := hcut
         cases kq with
         | zero => exact absurd HA.out (by simp [armadaref07_Bump.j2])
         | succ kj26 =>
          have H := HA.out
          clear HA
          simp only [armadaref07_Bump.j2] at H
          by_cases c68 : x77_26 = true
          ·subst c68
           have H1 : (armadaref07_Bump.l0 kj26 a1 y343 (wrap64 (x7_2 + 1)) a0_0 a0_1 a0_2 a0_3 a0_4) = some (r1, r2, r3, r4, r5, r6) := by rw [if_pos rfl] at H; exact H
           clear H
           have H := H1
           clear H1
           have H' := Aside0.mk H
           clear H
           go_wp2
           go_roundg kj26
           case measure => have := HJ2.out; have := HK2.out; have := HJ26.out; omega
           case rel => exact ⟨(wrap64 (x7_2 + 1)), (x342000_2), (x342001_2), (x342002_2), (x342003_2), (x342004_2), (by first | rfl | (simp; done) | (simp [*]; done)), H', ⟨by have := HJ2.out; have := HK2.out; have := HJ26.out; omega⟩, ⟨by (with_reducible repeat (first | apply Kd.R_alloc | apply Kd.R_drewN | apply Kd.R_drew)); exact Kd.R_mono HO_6.out (fun _ hk => ⟨hk.1, hk.2.1⟩)⟩, ⟨by (with_reducible repeat (first | apply xN_ | apply xD_ | apply xA_)); exact BK340.out⟩, ⟨by (with_reducible repeat (first | apply xN_ | apply xD_ | apply xA_)); exact BK341.out⟩, ⟨by repeat (first | (with_reducible first | exact HB.out | apply yA_ | apply yN_ | apply yD_ | refine yS_ ?_ GE340.out | refine yS_ ?_ GE341.out | refine yS_ ?_ GE347.out) | exact HB.out)⟩⟩
          ·replace c68 := Bool.eq_false_iff.mpr c68
           subst c68
           have H1 : ((armadaref07_Compare.f kj26 ((rd_T23 y343 x7_2).f0) ((rd_T23 y343 x7_2).f1) ((rd_T23 y343 x7_2).f2) ((rd_T23 y343 x7_2).f3) ((rd_T23 y343 x7_2).f4) a0_0 a0_1 a0_2 a0_3 a0_4).bind fun t352 => (if t352 > 0 then (some (((rd_T23 y343 x7_2).f0), ((rd_T23 y343 x7_2).f1), ((rd_T23 y343 x7_2).f2), ((rd_T23 y343 x7_2).f3), ((rd_T23 y343 x7_2).f4), 0)) else (armadaref07_Bump.l0 kj26 a1 y343 (wrap64 (x7_2 + 1)) a0_0 a0_1 a0_2 a0_3 a0_4))) = some (r1, r2, r3, r4, r5, r6) := by rw [if_neg (show ¬ (false = true) by decide)] at H; exact H
           clear H
           have H := H1
           clear H1
           replace H := Option.bind_eq_some_iff.mp H
           obtain ⟨t352, A690, H⟩ := H
           replace H : (if t352 > 0 then (some (((rd_T23 y343 x7_2).f0), ((rd_T23 y343 x7_2).f1), ((rd_T23 y343 x7_2).f2), ((rd_T23 y343 x7_2).f3), ((rd_T23 y343 x7_2).f4), 0)) else (armadaref07_Bump.l0 kj26 a1 y343 (wrap64 (x7_2 + 1)) a0_0 a0_1 a0_2 a0_3 a0_4)) = some (r1, r2, r3, r4, r5, r6) := H
           have A69 := Aside0.mk A690
           clear A690
           by_cases c70 : t352 > 0
           ·rw [if_pos c70] at H
            have c70b0 : decide (0 < t352) = true := decide_eq_true c70
            clear c70
            simp only [Option.some.injEq, Prod.mk.injEq] at H
            obtain ⟨rfl, rfl, rfl, rfl, rfl, rfl⟩ := H
            have hnb71 := NB347_340.out
            have hnc71 := NB340_347.out
            have hnb72 := NB347_341.out
            have hnc72 := NB341_347.out
            have hcz73_0 : wc.cell? ⟨gb347, 0, none⟩ = some (.int .i64 ((rd_T23 y343 x7_2).f0)) := (xC_ BK347.out 0).trans rfl
            have hcz73_1 : wc.cell? ⟨gb347, 1, none⟩ = some (.int .i64 ((rd_T23 y343 x7_2).f1)) := (xC_ BK347.out 1).trans rfl
            have hcz73_2 : wc.cell? ⟨gb347, 2, none⟩ = some (.int .i64 ((rd_T23 y343 x7_2).f2)) := (xC_ BK347.out 2).trans rfl
            have hcz73_3 : wc.cell? ⟨gb347, 3, none⟩ = some (.string ((rd_T23 y343 x7_2).f3)) := (xC_ BK347.out 3).trans rfl
            have hcz73_4 : wc.cell? ⟨gb347, 4, none⟩ = some (.string ((rd_T23 y343 x7_2).f4)) := (xC_ BK347.out 4).trans rfl
            have hfz73_0 := xF_ BK347.out 0
            have hfz73_1 := xF_ BK347.out 1
            have hfz73_2 := xF_ BK347.out 2
            have hfz73_3 := xF_ BK347.out 3
            have hfz73_4 := xF_ BK347.out 4
            have hnb74 := NB340_341.out
            have hnc74 := NB341_340.out
            have hcz75_0 : wc.cell? ⟨gb340, 0, none⟩ = some (.int .i64 a0_0) := (xC_ BK340.out 0).trans rfl
            have hcz75_1 : wc.cell? ⟨gb340, 1, none⟩ = some (.int .i64 a0_1) := (xC_ BK340.out 1).trans rfl
            have hcz75_2 : wc.cell? ⟨gb340, 2, none⟩ = some (.int .i64 a0_2) := (xC_ BK340.out 2).trans rfl
            have hcz75_3 : wc.cell? ⟨gb340, 3, none⟩ = some (.string a0_3) := (xC_ BK340.out 3).trans rfl
            have hcz75_4 : wc.cell? ⟨gb340, 4, none⟩ = some (.string a0_4) := (xC_ BK340.out 4).trans rfl
            have hfz75_0 := xF_ BK340.out 0
            have hfz75_1 := xF_ BK340.out 1
            have hfz75_2 := xF_ BK340.out 2
            have hfz75_3 := xF_ BK340.out 3
            have hfz75_4 := xF_ BK340.out 4
            go_wp2_with (first | ((with_reducible refine gate_callee (f := 20) rfl ?_); refine goesL_ (some 80) rfl rfl Tryd.func20 (by kernel_rfl) rfl #[.agg #[.int .i64 ((rd_T23 y343 x7_2).f0), .int .i64 ((rd_T23 y343 x7_2).f1), .int .i64 ((rd_T23 y343 x7_2).f2), .string ((rd_T23 y343 x7_2).f3), .string ((rd_T23 y343 x7_2).f4)], .agg #[.int .i64 a0_0, .int .i64 a0_1, .int .i64 a0_2, .string a0_3, .string a0_4]] rfl (by (try simp only [List.map_toArray, List.map_cons, List.map_nil]); first | done | rfl) ?_; (with_reducible refine (armadaref07_Compare.calls kj26 ((rd_T23 y343 x7_2).f0) ((rd_T23 y343 x7_2).f1) ((rd_T23 y343 x7_2).f2) ((rd_T23 y343 x7_2).f3) ((rd_T23 y343 x7_2).f4) a0_0 a0_1 a0_2 a0_3 a0_4 t352 _ A69.out).mono ?_); rintro e w76 ⟨rfl, hb⟩; refine ⟨_, rfl, ?_⟩; have n0_ := Aside0.mk (Kd.R_below (by (with_reducible repeat (first | apply Kd.R_alloc | apply Kd.R_drewN | apply Kd.R_drew)); exact HO_6.out) hb); have n1_ := Aside0.mk (blk_below (g := gb340) (o := .cells #[.int .i64 a0_0, .int .i64 a0_1, .int .i64 a0_2, .string a0_3, .string a0_4] 23 (0, 0)) (by (with_reducible repeat (first | apply xN_ | apply xD_ | apply xA_)); exact BK340.out) hb); have n2_ := Aside0.mk (blk_below (g := gb341) (o := .cells #[.int .i64 x342000_2, .int .i64 x342001_2, .int .i64 x342002_2, .string x342003_2, .string x342004_2] 23 (0, 0)) (by (with_reducible repeat (first | apply xN_ | apply xD_ | apply xA_)); exact BK341.out) hb); have n3_ := Aside0.mk (blk_below (g := gb347) (o := .cells #[.int .i64 ((rd_T23 y343 x7_2).f0), .int .i64 ((rd_T23 y343 x7_2).f1), .int .i64 ((rd_T23 y343 x7_2).f2), .string ((rd_T23 y343 x7_2).f3), .string ((rd_T23 y343 x7_2).f4)] 23 (0, 0)) (by (with_reducible repeat (first | apply xN_ | apply xD_ | apply xA_)); exact BK347.out) hb); have n4_ := Aside0.mk (below_step (by repeat (first | (with_reducible first | exact HB.out | apply yA_ | apply yN_ | apply yD_ | refine yS_ ?_ GE340.out | refine yS_ ?_ GE341.out | refine yS_ ?_ GE347.out) | exact HB.out)) hb); clear HO_6; clear BK340; clear BK341; clear BK347; clear HB; have HO_6 := n0_; have BK340 := n1_; have BK341 := n2_; have BK347 := n3_; have HB := n4_; clear n0_ n1_ n2_ n3_ n4_; (try clear hb); (try clear hb2); (try clear hk); (try clear hi); have hcz77_0 : w76.cell? ⟨gb347, 0, none⟩ = some (.int .i64 ((rd_T23 y343 x7_2).f0)) := (xC_ BK347.out 0).trans rfl; have hcz77_1 : w76.cell? ⟨gb347, 1, none⟩ = some (.int .i64 ((rd_T23 y343 x7_2).f1)) := (xC_ BK347.out 1).trans rfl; have hcz77_2 : w76.cell? ⟨gb347, 2, none⟩ = some (.int .i64 ((rd_T23 y343 x7_2).f2)) := (xC_ BK347.out 2).trans rfl; have hcz77_3 : w76.cell? ⟨gb347, 3, none⟩ = some (.string ((rd_T23 y343 x7_2).f3)) := (xC_ BK347.out 3).trans rfl; have hcz77_4 : w76.cell? ⟨gb347, 4, none⟩ = some (.string ((rd_T23 y343 x7_2).f4)) := (xC_ BK347.out 4).trans rfl; have hfz77_0 := xF_ BK347.out 0; have hfz77_1 := xF_ BK347.out 1; have hfz77_2 := xF_ BK347.out 2; have hfz77_3 := xF_ BK347.out 3; have hfz77_4 := xF_ BK347.out 4; have hcz78_0 : w76.cell? ⟨gb341, 0, none⟩ = some (.int .i64 x342000_2) := (xC_ BK341.out 0).trans rfl; have hcz78_1 : w76.cell? ⟨gb341, 1, none⟩ = some (.int .i64 x342001_2) := (xC_ BK341.out 1).trans rfl; have hcz78_2 : w76.cell? ⟨gb341, 2, none⟩ = some (.int .i64 x342002_2) := (xC_ BK341.out 2).trans rfl; have hcz78_3 : w76.cell? ⟨gb341, 3, none⟩ = some (.string x342003_2) := (xC_ BK341.out 3).trans rfl; have hcz78_4 : w76.cell? ⟨gb341, 4, none⟩ = some (.string x342004_2) := (xC_ BK341.out 4).trans rfl; have hfz78_0 := xF_ BK341.out 0; have hfz78_1 := xF_ BK341.out 1; have hfz78_2 := xF_ BK341.out 2; have hfz78_3 := xF_ BK341.out 3; have hfz78_4 := xF_ BK341.out 4))
            refine bodyPost_ret (results_ct rfl _ _ gb341 23 #[.int .i64 ((rd_T23 y343 x7_2).f0), .int .i64 ((rd_T23 y343 x7_2).f1), .int .i64 ((rd_T23 y343 x7_2).f2), .string ((rd_T23 y343 x7_2).f3), .string ((rd_T23 y343 x7_2).f4)] (0, 0) _ rfl (by (with_reducible repeat (first | apply xN_ | apply xD_ | apply xA_)); refine blk_put (cs := #[.int .i64 ((rd_T23 y343 x7_2).f0), .int .i64 ((rd_T23 y343 x7_2).f1), .int .i64 ((rd_T23 y343 x7_2).f2), .string ((rd_T23 y343 x7_2).f3), .string x342004_2]) ?_ 4 _ rfl; refine blk_put (cs := #[.int .i64 ((rd_T23 y343 x7_2).f0), .int .i64 ((rd_T23 y343 x7_2).f1), .int .i64 ((rd_T23 y343 x7_2).f2), .string x342003_2, .string x342004_2]) ?_ 3 _ rfl; refine blk_put (cs := #[.int .i64 ((rd_T23 y343 x7_2).f0), .int .i64 ((rd_T23 y343 x7_2).f1), .int .i64 x342002_2, .string x342003_2, .string x342004_2]) ?_ 2 _ rfl; refine blk_put (cs := #[.int .i64 ((rd_T23 y343 x7_2).f0), .int .i64 x342001_2, .int .i64 x342002_2, .string x342003_2, .string x342004_2]) ?_ 1 _ rfl; refine blk_put (cs := #[.int .i64 x342000_2, .int .i64 x342001_2, .int .i64 x342002_2, .string x342003_2, .string x342004_2]) ?_ 0 _ rfl; (with_reducible repeat (first | apply xN_ | apply xD_ | apply xA_)); exact BK341.out) Tryd.underlying23 rfl (by kernel_rfl)) rfl ?_
            exact ⟨by first | rfl | (simp [errW_none, errW_some] <;> rfl) | (simp [*, errW_none, errW_some] <;> rfl), by repeat (first | (with_reducible first | exact HB.out | apply yA_ | apply yN_ | apply yD_ | refine yS_ ?_ GE340.out | refine yS_ ?_ GE341.out | refine yS_ ?_ GE347.out) | exact HB.out)⟩
           ·rw [if_neg c70] at H
            have c70b0 : decide (0 < t352) = false := decide_eq_false c70
            clear c70
            have H' := Aside0.mk H
            clear H
            have hnb79 := NB347_340.out
            have hnc79 := NB340_347.out
            have hnb80 := NB347_341.out
            have hnc80 := NB341_347.out
            have hcz81_0 : wc.cell? ⟨gb347, 0, none⟩ = some (.int .i64 ((rd_T23 y343 x7_2).f0)) := (xC_ BK347.out 0).trans rfl
            have hcz81_1 : wc.cell? ⟨gb347, 1, none⟩ = some (.int .i64 ((rd_T23 y343 x7_2).f1)) := (xC_ BK347.out 1).trans rfl
            have hcz81_2 : wc.cell? ⟨gb347, 2, none⟩ = some (.int .i64 ((rd_T23 y343 x7_2).f2)) := (xC_ BK347.out 2).trans rfl
            have hcz81_3 : wc.cell? ⟨gb347, 3, none⟩ = some (.string ((rd_T23 y343 x7_2).f3)) := (xC_ BK347.out 3).trans rfl
            have hcz81_4 : wc.cell? ⟨gb347, 4, none⟩ = some (.string ((rd_T23 y343 x7_2).f4)) := (xC_ BK347.out 4).trans rfl
            have hfz81_0 := xF_ BK347.out 0
            have hfz81_1 := xF_ BK347.out 1
            have hfz81_2 := xF_ BK347.out 2
            have hfz81_3 := xF_ BK347.out 3
            have hfz81_4 := xF_ BK347.out 4
            have hnb82 := NB340_341.out
            have hnc82 := NB341_340.out
            have hcz83_0 : wc.cell? ⟨gb340, 0, none⟩ = some (.int .i64 a0_0) := (xC_ BK340.out 0).trans rfl
            have hcz83_1 : wc.cell? ⟨gb340, 1, none⟩ = some (.int .i64 a0_1) := (xC_ BK340.out 1).trans rfl
            have hcz83_2 : wc.cell? ⟨gb340, 2, none⟩ = some (.int .i64 a0_2) := (xC_ BK340.out 2).trans rfl
            have hcz83_3 : wc.cell? ⟨gb340, 3, none⟩ = some (.string a0_3) := (xC_ BK340.out 3).trans rfl
            have hcz83_4 : wc.cell? ⟨gb340, 4, none⟩ = some (.string a0_4) := (xC_ BK340.out 4).trans rfl
            have hfz83_0 := xF_ BK340.out 0
            have hfz83_1 := xF_ BK340.out 1
            have hfz83_2 := xF_ BK340.out 2
            have hfz83_3 := xF_ BK340.out 3
            have hfz83_4 := xF_ BK340.out 4
            go_wp2_with (first | ((with_reducible refine gate_callee (f := 20) rfl ?_); refine goesL_ (some 80) rfl rfl Tryd.func20 (by kernel_rfl) rfl #[.agg #[.int .i64 ((rd_T23 y343 x7_2).f0), .int .i64 ((rd_T23 y343 x7_2).f1), .int .i64 ((rd_T23 y343 x7_2).f2), .string ((rd_T23 y343 x7_2).f3), .string ((rd_T23 y343 x7_2).f4)], .agg #[.int .i64 a0_0, .int .i64 a0_1, .int .i64 a0_2, .string a0_3, .string a0_4]] rfl (by (try simp only [List.map_toArray, List.map_cons, List.map_nil]); first | done | rfl) ?_; (with_reducible refine (armadaref07_Compare.calls kj26 ((rd_T23 y343 x7_2).f0) ((rd_T23 y343 x7_2).f1) ((rd_T23 y343 x7_2).f2) ((rd_T23 y343 x7_2).f3) ((rd_T23 y343 x7_2).f4) a0_0 a0_1 a0_2 a0_3 a0_4 t352 _ A69.out).mono ?_); rintro e w84 ⟨rfl, hb⟩; refine ⟨_, rfl, ?_⟩; have n0_ := Aside0.mk (Kd.R_below (by (with_reducible repeat (first | apply Kd.R_alloc | apply Kd.R_drewN | apply Kd.R_drew)); exact HO_6.out) hb); have n1_ := Aside0.mk (blk_below (g := gb340) (o := .cells #[.int .i64 a0_0, .int .i64 a0_1, .int .i64 a0_2, .string a0_3, .string a0_4] 23 (0, 0)) (by (with_reducible repeat (first | apply xN_ | apply xD_ | apply xA_)); exact BK340.out) hb); have n2_ := Aside0.mk (blk_below (g := gb341) (o := .cells #[.int .i64 x342000_2, .int .i64 x342001_2, .int .i64 x342002_2, .string x342003_2, .string x342004_2] 23 (0, 0)) (by (with_reducible repeat (first | apply xN_ | apply xD_ | apply xA_)); exact BK341.out) hb); have n3_ := Aside0.mk (blk_below (g := gb347) (o := .cells #[.int .i64 ((rd_T23 y343 x7_2).f0), .int .i64 ((rd_T23 y343 x7_2).f1), .int .i64 ((rd_T23 y343 x7_2).f2), .string ((rd_T23 y343 x7_2).f3), .string ((rd_T23 y343 x7_2).f4)] 23 (0, 0)) (by (with_reducible repeat (first | apply xN_ | apply xD_ | apply xA_)); exact BK347.out) hb); have n4_ := Aside0.mk (below_step (by repeat (first | (with_reducible first | exact HB.out | apply yA_ | apply yN_ | apply yD_ | refine yS_ ?_ GE340.out | refine yS_ ?_ GE341.out | refine yS_ ?_ GE347.out) | exact HB.out)) hb); clear HO_6; clear BK340; clear BK341; clear BK347; clear HB; have HO_6 := n0_; have BK340 := n1_; have BK341 := n2_; have BK347 := n3_; have HB := n4_; clear n0_ n1_ n2_ n3_ n4_; (try clear hb); (try clear hb2); (try clear hk); (try clear hi)))
            go_roundg kj26
            case measure => have := HJ2.out; have := HK2.out; have := HJ26.out; omega
            case rel => exact ⟨(wrap64 (x7_2 + 1)), (x342000_2), (x342001_2), (x342002_2), (x342003_2), (x342004_2), (by first | rfl | (simp; done) | (simp [*]; done)), H', ⟨by have := HJ2.out; have := HK2.out; have := HJ26.out; omega⟩, ⟨by (with_reducible repeat (first | apply Kd.R_alloc | apply Kd.R_drewN | apply Kd.R_drew)); exact Kd.R_mono HO_6.out (fun _ hk => ⟨hk.1, hk.2.1⟩)⟩, ⟨by (with_reducible repeat (first | apply xN_ | apply xD_ | apply xA_)); exact BK340.out⟩, ⟨by (with_reducible repeat (first | apply xN_ | apply xD_ | apply xA_)); exact BK341.out⟩, ⟨by repeat (first | (with_reducible first | exact HB.out | apply yA_ | apply yN_ | apply yD_ | refine yS_ ?_ GE340.out | refine yS_ ?_ GE341.out | refine yS_ ?_ GE347.out) | exact HB.out)⟩⟩
       ·rw [if_neg c26] at H
        exact absurd H (by simp)
      ·rw [if_neg c25] at H
       have c25b0 : decide (x7_2 < (y343.length : Int)) = false := decide_eq_false c25
       clear c25
       simp only [Option.some.injEq, Prod.mk.injEq] at H
       obtain ⟨rfl, rfl, rfl, rfl, rfl, rfl⟩ := H
       obtain ⟨Ao85, co85, eo85⟩ := Kd.R_slice HO_6.out
       subst eo85
       have hnb86 := NB341_340.out
       have hnc86 := NB340_341.out
       have hcz87_0 : wr.cell? ⟨gb341, 0, none⟩ = some (.int .i64 x342000_2) := (xC_ BK341.out 0).trans rfl
       have hcz87_1 : wr.cell? ⟨gb341, 1, none⟩ = some (.int .i64 x342001_2) := (xC_ BK341.out 1).trans rfl
       have hcz87_2 : wr.cell? ⟨gb341, 2, none⟩ = some (.int .i64 x342002_2) := (xC_ BK341.out 2).trans rfl
       have hcz87_3 : wr.cell? ⟨gb341, 3, none⟩ = some (.string x342003_2) := (xC_ BK341.out 3).trans rfl
       have hcz87_4 : wr.cell? ⟨gb341, 4, none⟩ = some (.string x342004_2) := (xC_ BK341.out 4).trans rfl
       have hfz87_0 := xF_ BK341.out 0
       have hfz87_1 := xF_ BK341.out 1
       have hfz87_2 := xF_ BK341.out 2
       have hfz87_3 := xF_ BK341.out 3
       have hfz87_4 := xF_ BK341.out 4
       go_wp2
       refine bodyPost_ret (results_ct rfl _ _ gb341 23 #[.int .i64 0, .int .i64 0, .int .i64 0, .string (⟨#[]⟩ : ByteArray), .string (⟨#[]⟩ : ByteArray)] (0, 0) _ rfl (by (with_reducible repeat (first | apply xN_ | apply xD_ | apply xA_)); refine blk_put (cs := #[.int .i64 0, .int .i64 0, .int .i64 0, .string (⟨#[]⟩ : ByteArray), .string x342004_2]) ?_ 4 _ rfl; refine blk_put (cs := #[.int .i64 0, .int .i64 0, .int .i64 0, .string x342003_2, .string x342004_2]) ?_ 3 _ rfl; refine blk_put (cs := #[.int .i64 0, .int .i64 0, .int .i64 x342002_2, .string x342003_2, .string x342004_2]) ?_ 2 _ rfl; refine blk_put (cs := #[.int .i64 0, .int .i64 x342001_2, .int .i64 x342002_2, .string x342003_2, .string x342004_2]) ?_ 1 _ rfl; refine blk_put (cs := #[.int .i64 x342000_2, .int .i64 x342001_2, .int .i64 x342002_2, .string x342003_2, .string x342004_2]) ?_ 0 _ rfl; (with_reducible repeat (first | apply xN_ | apply xD_ | apply xA_)); exact BK341.out) Tryd.underlying23 rfl (by kernel_rfl)) rfl ?_
       exact ⟨by first | rfl | (simp [errW_none, errW_some] <;> rfl) | (simp [*, errW_none, errW_some] <;> rfl), by repeat (first | (with_reducible first | exact HB.out | apply yA_ | apply yN_ | apply yD_ | refine yS_ ?_ GE340.out | refine yS_ ?_ GE341.out) | exact HB.out)⟩
end Go.Proofs.YthoiepkejhhcoaaDoor.P
