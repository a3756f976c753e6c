/- Printed functions, merged. -/
import Derived.Test.YthoddglnfdmdeaaZJSM0
import Derived.Test.YthoddglnfdmdeaaZJSAl
namespace Go.Proofs.Ythoddglnfdmdeaa.P
open Go.RowKit Go.Proofs.YthoddglnfdmdeaaW.PrintWords Go.Proofs.YthoddglnfdmdeaaW.PrintLast Go.Proofs.YthoddglnfdmdeaaW.PrintMore
attribute [local go_sem] max2_int min2_int max_two min_two max_three min_three max_four min_four   -- for this text's walks alone
set_option linter.unusedVariables false
set_option linter.unusedSimpArgs false
def slices_Equal_string_string.l0 : Nat → List ByteArray → List ByteArray → Int → Int → Option (Bool)
 | 0, _, _, _, _ => none
 | k + 1, x0, x1, x12, x13 => if x13 < x12 then (if 0 ≤ x13 then (if x13 < (x0.length : Int) then (if x13 < (x1.length : Int) then (if (rdOf ByteArray.empty x0 x13).toList = (rdOf ByteArray.empty x1 x13).toList then (slices_Equal_string_string.l0 k x0 x1 x12 (wrap64 (x13 + 1))) else (some false)) else (none)) else (none)) else (none)) else (some true)
def slices_Equal_string_string.f (k : Nat) (l0 : List ByteArray) (l1 : List ByteArray) : Option (Bool) := if (l0.length : Int) = (l1.length : Int) then (slices_Equal_string_string.l0 k l0 l1 (l0.length : Int) 0) else (some false)
theorem slices_Equal_string_string.mono_l : ∀ k, (∀ y0 y1 y2 y3, LeO (slices_Equal_string_string.l0 k y0 y1 y2 y3) (slices_Equal_string_string.l0 (k + 1) y0 y1 y2 y3))
 | 0 => fun _ _ _ _ r h => by simp [slices_Equal_string_string.l0] at h
 | k + 1 => by
  have ih0 := slices_Equal_string_string.mono_l k
  ·intro y0 y1 y2 y3
   unfold slices_Equal_string_string.l0
   repeat' first
   | (with_reducible exact ih0 _ _ _ _)
   | (with_reducible exact LeO.refl _)
   | (with_reducible exact LeO.none _)
   | (with_reducible refine LeO.ite ?_ ?_)
   | (with_reducible refine LeO.bind ?_ (fun _ => ?_))
   | exact ih0 _ _ _ _
   | exact LeO.none _
   | refine LeO.ite ?_ ?_
   | refine LeO.bind ?_ (fun _ => ?_)
theorem slices_Equal_string_string.mono : ∀ a0 a1 k, LeO (slices_Equal_string_string.f k a0 a1) (slices_Equal_string_string.f (k + 1) a0 a1) := by
 intro a0 a1 k
 have ih0 := slices_Equal_string_string.mono_l k
 unfold slices_Equal_string_string.f
 repeat' first
   | (with_reducible exact ih0 _ _ _ _)
   | (with_reducible exact LeO.refl _)
   | (with_reducible exact LeO.none _)
   | (with_reducible refine LeO.ite ?_ ?_)
   | (with_reducible refine LeO.bind ?_ (fun _ => ?_))
   | exact ih0 _ _ _ _
   | exact LeO.none _
   | refine LeO.ite ?_ ?_
   | refine LeO.bind ?_ (fun _ => ?_)
set_option maxHeartbeats 8000000 in
set_option maxRecDepth 100000 in
theorem slices_Equal_string_string.calls (k : Nat) (A0 : Option Addr) (c0 : Nat) (l0 : List ByteArray) (A1 : Option Addr) (c1 : Nat) (l1 : List ByteArray) (r : Bool) (w : World) (hr0 : Kd.C Kd.string w A0 l0.length l0) (hc0 : l0.length ≤ c0) (hr1 : Kd.C Kd.string w A1 l1.length l1) (hc1 : l1.length ≤ c1) (h : slices_Equal_string_string.f k l0 l1 = some r) :
  Calls Try.prog 75 #[.slice A0 l0.length c0, .slice A1 l1.length c1] w fun e w' => e = .returned (.bool r) ∧ Drawn0 w w' := by
 have HR0 := Aside0.mk hr0
 have HC0 := Aside0.mk hc0
 clear hr0 hc0
 have HR1 := Aside0.mk hr1
 have HC1 := Aside0.mk hc1
 clear hr1 hc1
 have H : (if (l0.length : Int) = (l1.length : Int) then (slices_Equal_string_string.l0 k l0 l1 (l0.length : Int) 0) else (some false)) = some r := h
 clear h
 by_cases c3 : (l0.length : Int) = (l1.length : Int)
 ·rw [if_pos c3] at H
  have c3b0 : ((l0.length : Int) == (l1.length : Int)) = true := beq_iff_eq.mpr c3
  have c3b1 : ((l0.length : Int) != (l1.length : Int)) = false := bne_eq_false_iff_eq.mpr c3
  have c3b2 : (l0.length == l1.length) = true := by first | simpa using c3 | (simp at c3 ⊢; omega)
  clear c3
  have H' := Aside0.mk H
  clear H
  go_enter Try.func75, Try.ntmps75
  go_wp2
  repeat (go_quiet (fail); try go_wp2)
  go_loopg [13] k (fun kq v13 w' => ∃ (x13_1 : Int), v13 = .int .i64 x13_1 ∧ Aside0 (slices_Equal_string_string.l0 kq l0 l1 (l0.length : Int) x13_1 = some r) ∧ Aside0 (kq ≤ k) ∧ Drawn0 w w')
  case atStart => exact ⟨(0), eY, H', ⟨Nat.le_refl _⟩, by repeat (first | exact Drawn0.refl _ | apply Drawn0.step)⟩
  case round =>
   clear H'
   (try clear p2); (try clear c3b0); (try clear c3b1); (try clear c3b2)
   obtain ⟨x13_1, rfl, HA, HK1, ⟨m1, rfl⟩⟩ := hrel
   cases gk with
   | zero => exact absurd HA.out (by simp [slices_Equal_string_string.l0])
   | succ k1 =>
    have H := HA.out
    clear HA
    simp only [slices_Equal_string_string.l0] at H
    by_cases c4 : x13_1 < (l0.length : Int)
    ·rw [if_pos c4] at H
     have c4b0 : decide (x13_1 < (l0.length : Int)) = true := decide_eq_true c4
     clear c4
     by_cases c5 : 0 ≤ x13_1
     ·rw [if_pos c5] at H
      have c5b0 : decide (0 ≤ x13_1) = true := decide_eq_true c5
      clear c5
      by_cases c6 : x13_1 < (l0.length : Int)
      ·rw [if_pos c6] at H
       have c6b0 : decide (x13_1 < (l0.length : Int)) = true := decide_eq_true c6
       clear c6
       by_cases c7 : x13_1 < (l1.length : Int)
       ·rw [if_pos c7] at H
        have c7b0 : decide (x13_1 < (l1.length : Int)) = true := decide_eq_true c7
        clear c7
        by_cases c8 : (rdOf ByteArray.empty l0 x13_1).toList = (rdOf ByteArray.empty l1 x13_1).toList
        ·rw [if_pos c8] at H
         have c8b0 : ((rdOf ByteArray.empty l0 x13_1).toList == (rdOf ByteArray.empty l1 x13_1).toList) = true := beq_iff_eq.mpr c8
         have c8b1 : ((rdOf ByteArray.empty l0 x13_1).toList != (rdOf ByteArray.empty l1 x13_1).toList) = false := bne_eq_false_iff_eq.mpr c8
         clear c8
         have H' := Aside0.mk H
         clear H
         have p185 : 0 ≤ (x13_1 : Int) := of_decide_eq_true aS
         have q185 : x13_1 < (l0.length : Int) := of_decide_eq_true aS
         obtain ⟨ad185, e185, hx185_0⟩ := Kd.at_string HR0.out x13_1 p185 q185
         cases e185
         replace p185 := eq_true p185
         replace q185 := eq_true q185
         have p186 : 0 ≤ (x13_1 : Int) := of_decide_eq_true aS
         have q186 : x13_1 < (l1.length : Int) := of_decide_eq_true aS
         obtain ⟨ad186, e186, hx186_0⟩ := Kd.at_string HR1.out x13_1 p186 q186
         cases e186
         replace p186 := eq_true p186
         replace q186 := eq_true q186
         go_wp2
         repeat (go_quiet (fail); try go_wp2)
         go_roundg k1
         case measure => have := HK1.out; omega
         case rel => exact ⟨(wrap64 (x13_1 + 1)), eY, H', ⟨by have := HK1.out; omega⟩, by repeat (first | exact Drawn0.refl _ | apply Drawn0.step)⟩
        ·rw [if_neg c8] at H
         have c8b0 : ((rdOf ByteArray.empty l0 x13_1).toList == (rdOf ByteArray.empty l1 x13_1).toList) = false := beq_eq_false_iff_ne.mpr c8
         have c8b1 : ((rdOf ByteArray.empty l0 x13_1).toList != (rdOf ByteArray.empty l1 x13_1).toList) = true := bne_iff_ne.mpr c8
         obtain rfl := Option.some.inj H
         have p185 : 0 ≤ (x13_1 : Int) := of_decide_eq_true aS
         have q185 : x13_1 < (l0.length : Int) := of_decide_eq_true aS
         obtain ⟨ad185, e185, hx185_0⟩ := Kd.at_string HR0.out x13_1 p185 q185
         cases e185
         replace p185 := eq_true p185
         replace q185 := eq_true q185
         have p186 : 0 ≤ (x13_1 : Int) := of_decide_eq_true aS
         have q186 : x13_1 < (l1.length : Int) := of_decide_eq_true aS
         obtain ⟨ad186, e186, hx186_0⟩ := Kd.at_string HR1.out x13_1 p186 q186
         cases e186
         replace p186 := eq_true p186
         replace q186 := eq_true q186
         go_wp2
         repeat (go_quiet (fail); try go_wp2)
         go_ret
         exact ⟨by first | rfl | (simp; done) | (simp [*]; done), by repeat (first | exact Drawn0.refl _ | apply Drawn0.step)⟩
       ·rw [if_neg c7] at H
        exact absurd H (by simp)
      ·rw [if_neg c6] at H
       exact absurd H (by simp)
     ·rw [if_neg c5] at H
      exact absurd H (by simp)
    ·rw [if_neg c4] at H
     have c4b0 : decide (x13_1 < (l0.length : Int)) = false := decide_eq_false c4
     clear c4
     obtain rfl := Option.some.inj H
     go_wp2
     repeat (go_quiet (fail); try go_wp2)
     go_ret
     exact ⟨by first | rfl | (simp; done) | (simp [*]; done), by repeat (first | exact Drawn0.refl _ | apply Drawn0.step)⟩
 ·rw [if_neg c3] at H
  have c3b0 : ((l0.length : Int) == (l1.length : Int)) = false := beq_eq_false_iff_ne.mpr c3
  have c3b1 : ((l0.length : Int) != (l1.length : Int)) = true := bne_iff_ne.mpr c3
  have c3b2 : (l0.length == l1.length) = false := by first | simpa using c3 | (simp at c3 ⊢; omega)
  obtain rfl := Option.some.inj H
  go_enter Try.func75, Try.ntmps75
  go_wp2
  repeat (go_quiet (fail); try go_wp2)
  go_ret
  exact ⟨by first | rfl | (simp; done) | (simp [*]; done), by repeat (first | exact Drawn0.refl _ | apply Drawn0.step)⟩
def armadaref01_fill.l0 : Nat → ByteArray → Option (ByteArray)
 | 0, _ => none
 | k + 1, x0 => if (x0.size : Int) < 32 then (if x0.size + 1 ≤ 9223372036854775807 then (armadaref01_fill.l0 k (x0 ++ (⟨#[0]⟩ : ByteArray))) else (none)) else (some x0)
def armadaref01_fill.f (k : Nat) (a0 : ByteArray) : Option (ByteArray) := armadaref01_fill.l0 k a0
theorem armadaref01_fill.mono_l : ∀ k, (∀ y0, LeO (armadaref01_fill.l0 k y0) (armadaref01_fill.l0 (k + 1) y0))
 | 0 => fun _ r h => by simp [armadaref01_fill.l0] at h
 | k + 1 => by
  have ih0 := armadaref01_fill.mono_l k
  ·intro y0
   unfold armadaref01_fill.l0
   repeat' first
   | (with_reducible exact ih0 _)
   | (with_reducible exact LeO.refl _)
   | (with_reducible exact LeO.none _)
   | (with_reducible refine LeO.ite ?_ ?_)
   | (with_reducible refine LeO.bind ?_ (fun _ => ?_))
   | exact ih0 _
   | exact LeO.none _
   | refine LeO.ite ?_ ?_
   | refine LeO.bind ?_ (fun _ => ?_)
theorem armadaref01_fill.mono : ∀ a0 k, LeO (armadaref01_fill.f k a0) (armadaref01_fill.f (k + 1) a0) := by
 intro a0 k
 have ih0 := armadaref01_fill.mono_l k
 unfold armadaref01_fill.f
 repeat' first
   | (with_reducible exact ih0 _)
   | (with_reducible exact LeO.refl _)
   | (with_reducible exact LeO.none _)
   | (with_reducible refine LeO.ite ?_ ?_)
   | (with_reducible refine LeO.bind ?_ (fun _ => ?_))
   | exact ih0 _
   | exact LeO.none _
   | refine LeO.ite ?_ ?_
   | refine LeO.bind ?_ (fun _ => ?_)
set_option maxHeartbeats 8000000 in
set_option maxRecDepth 100000 in
theorem armadaref01_fill.calls (k : Nat) (a0 : ByteArray) (r : ByteArray) (w : World) (h : armadaref01_fill.f k a0 = some r) :
  Calls Try.prog 42 #[.string a0] w fun e w' => e = .returned (.string r) ∧ Drawn0 w w' := by
 have H : (armadaref01_fill.l0 k a0) = some r := h
 clear h
 have H' := Aside0.mk H
 clear H
 go_enter Try.func42, Try.ntmps42
 go_wp2
 go_loopg [0] k (fun kq v0 w' => ∃ (x0_1 : ByteArray), v0 = .string x0_1 ∧ Aside0 (armadaref01_fill.l0 kq x0_1 = some r) ∧ Aside0 (kq ≤ k) ∧ Drawn0 w w')
 case atStart => exact ⟨(a0), eY, H', ⟨Nat.le_refl _⟩, by repeat (first | exact Drawn0.refl _ | apply Drawn0.step)⟩
 case round =>
  clear H'
  obtain ⟨x0_1, rfl, HA, HK1, ⟨m1, rfl⟩⟩ := hrel
  cases gk with
  | zero => exact absurd HA.out (by simp [armadaref01_fill.l0])
  | succ k1 =>
   have H := HA.out
   clear HA
   simp only [armadaref01_fill.l0] at H
   by_cases c2 : (x0_1.size : Int) < 32
   ·rw [if_pos c2] at H
    have c2b0 : decide ((x0_1.size : Int) < 32) = true := decide_eq_true c2
    have c2b1 : decide (x0_1.size < 32) = true := decide_eq_true (by omega)
    clear c2
    by_cases c3 : x0_1.size + 1 ≤ 9223372036854775807
    ·rw [if_pos c3] at H
     have c3b0 := eq_true c3
     have c3b1 : decide (x0_1.size + 1 ≤ 9223372036854775807) = true := decide_eq_true c3
     try have c3b2 : (9223372036854775807 < x0_1.size + 1) = False := eq_false (Nat.not_lt.2 c3)
     have H' := Aside0.mk H
     clear H
     go_wp2
     go_roundg k1
     case measure => have := HK1.out; omega
     case rel => exact ⟨(x0_1 ++ (⟨#[0]⟩ : ByteArray)), eY, H', ⟨by have := HK1.out; omega⟩, by repeat (first | exact Drawn0.refl _ | apply Drawn0.step)⟩
    ·rw [if_neg c3] at H
     exact absurd H (by simp)
   ·rw [if_neg c2] at H
    have c2b0 : decide ((x0_1.size : Int) < 32) = false := decide_eq_false c2
    have c2b1 : decide (x0_1.size < 32) = false := decide_eq_false (by omega)
    clear c2
    obtain rfl := Option.some.inj H
    go_wp2
    go_ret
    exact ⟨by first | rfl | (simp; done) | (simp [*]; done), by repeat (first | exact Drawn0.refl _ | apply Drawn0.step)⟩
mutual
def armadaref01_New.j0 : Nat → Int → Bool → Option (List ByteArray × (List (S29)) × Bool)
 | 0, _, _ => none
 | k + 1, x0, x12 => if x12 = true then (some (([] : List ByteArray), ([] : List (S29)), false)) else (armadaref01_New.l0 k x0 0 ([] : List ByteArray))
def armadaref01_New.l0 : Nat → Int → Int → List ByteArray → Option (List ByteArray × (List (S29)) × Bool)
 | 0, _, _, _ => none
 | k + 1, x0, x5, x256000 => if x5 < x0 then ((armadaref01_fill.f k (⟨#[]⟩ : ByteArray)).bind fun t256 => (if x256000.length < 8796093022208 then (armadaref01_New.l0 k x0 (wrap64 (x5 + 1)) (x256000 ++ [t256])) else (none))) else (some (x256000, ([] : List (S29)), true))
end
def armadaref01_New.f (k : Nat) (a0 : Int) : Option (List ByteArray × (List (S29)) × Bool) := if a0 < 1 then (armadaref01_New.j0 k a0 true) else (armadaref01_New.j0 k a0 (decide (a0 > 512)))
theorem armadaref01_New.mono_l : ∀ k, (∀ y0 y1, LeO (armadaref01_New.j0 k y0 y1) (armadaref01_New.j0 (k + 1) y0 y1)) ∧ (∀ y0 y1 y2, LeO (armadaref01_New.l0 k y0 y1 y2) (armadaref01_New.l0 (k + 1) y0 y1 y2))
 | 0 => ⟨fun _ _ r h => by simp [armadaref01_New.j0] at h, fun _ _ _ r h => by simp [armadaref01_New.l0] at h⟩
 | k + 1 => by
  obtain ⟨ih0, ih1⟩ := armadaref01_New.mono_l k
  refine ⟨?_, ?_⟩
  ·intro y0 y1
   unfold armadaref01_New.j0
   repeat' first
   | (with_reducible exact ih0 _ _)
   | (with_reducible exact ih1 _ _ _)
   | (with_reducible exact armadaref01_fill.mono _ _)
   | (with_reducible exact LeO.refl _)
   | (with_reducible exact LeO.none _)
   | (with_reducible refine LeO.ite ?_ ?_)
   | (with_reducible refine LeO.bind ?_ (fun _ => ?_))
   | exact ih0 _ _
   | exact ih1 _ _ _
   | exact armadaref01_fill.mono _ _
   | exact LeO.none _
   | refine LeO.ite ?_ ?_
   | refine LeO.bind ?_ (fun _ => ?_)
  ·intro y0 y1 y2
   unfold armadaref01_New.l0
   repeat' first
   | (with_reducible exact ih0 _ _)
   | (with_reducible exact ih1 _ _ _)
   | (with_reducible exact armadaref01_fill.mono _ _)
   | (with_reducible exact LeO.refl _)
   | (with_reducible exact LeO.none _)
   | (with_reducible refine LeO.ite ?_ ?_)
   | (with_reducible refine LeO.bind ?_ (fun _ => ?_))
   | exact ih0 _ _
   | exact ih1 _ _ _
   | exact armadaref01_fill.mono _ _
   | exact LeO.none _
   | refine LeO.ite ?_ ?_
   | refine LeO.bind ?_ (fun _ => ?_)
theorem armadaref01_New.mono : ∀ a0 k, LeO (armadaref01_New.f k a0) (armadaref01_New.f (k + 1) a0) := by
 intro a0 k
 obtain ⟨ih0, ih1⟩ := armadaref01_New.mono_l k
 unfold armadaref01_New.f
 repeat' first
   | (with_reducible exact ih0 _ _)
   | (with_reducible exact ih1 _ _ _)
   | (with_reducible exact armadaref01_fill.mono _ _)
   | (with_reducible exact LeO.refl _)
   | (with_reducible exact LeO.none _)
   | (with_reducible refine LeO.ite ?_ ?_)
   | (with_reducible refine LeO.bind ?_ (fun _ => ?_))
   | exact ih0 _ _
   | exact ih1 _ _ _
   | exact armadaref01_fill.mono _ _
   | exact LeO.none _
   | refine LeO.ite ?_ ?_
   | refine LeO.bind ?_ (fun _ => ?_)
set_option maxHeartbeats 8000000 in
set_option maxRecDepth 100000 in
theorem armadaref01_New.calls (k : Nat) (a0 : Int) (r1 : List ByteArray) (r2 : List (S29)) (r3 : Bool) (w : World) (h : armadaref01_New.f k a0 = some (r1, r2, r3)) :
  Calls Try.prog 19 #[.int .i64 a0] w fun e w' => ∃ v0_ v1_ : Value, e = .returned (.tuple #[.agg #[v0_, v1_], .bool r3]) ∧ Kd.R Kd.string 9 w' w.heap.size (fun _ => True) v0_ r1 ∧ Kd.R k29 29 w' w.heap.size (fun _ => True) v1_ r2 ∧ Below w.heap.size w w' := by
 have hu25 := Try.underlying25
 have HB := Aside0.mk (Below.refl w.heap.size w)
 have H : (if a0 < 1 then (armadaref01_New.j0 k a0 true) else (armadaref01_New.j0 k a0 (decide (a0 > 512)))) = some (r1, r2, r3) := h
 clear h
 have HC2 := Aside0.mk H
 clear H
 go_enter Try.func19, Try.ntmps19
 go_upto_region 1 with (first | ((with_reducible refine gate_dst (N := 2) rfl ?_); refine bE (N := 2) (cs := #[.slice none 0 0, .slice none 0 0]) (t := 25) ?_; intro gb254 hg w3 hbox hb; have n0_ := wH hb; have n1_ := Aside0.mk (hbox); have n2_ := Aside0.mk ((qG hg)); have n3_ := Aside0.mk ((qG hg)); clear HB; have HB := n0_; have BK254 := n1_; have GE254 := n3_; clear n0_ n1_ n2_ n3_; clear hb hbox hg))
 (try simp only [Act.put, List.setIfInBounds_toArray, List.set_cons_zero, List.set_cons_succ])
 go_cut [12] (fun v12 wc => ∃ (kq : Nat) (x12_1 : Bool), v12 = .bool x12_1 ∧ Aside0 (armadaref01_New.j0 kq a0 x12_1 = some (r1, r2, r3)) ∧ Aside0 (kq ≤ k) ∧ Aside0 (wc.heap[gb254]? = some (.cells #[(.slice none 0 0), (.slice none 0 0)] 25 (0, 0))) ∧ Aside0 (Below w.heap.size w wc))
 case first =>
  have H := HC2.out
  clear HC2
  by_cases c4 : a0 < 1
  ·rw [if_pos c4] at H
   have c4b0 : decide (a0 < 1) = true := decide_eq_true c4
   clear c4
   (first | rw [c4b0] | (simp only [i64_w, i32_w]; rw [c4b0]) | skip)
   have H' := Aside0.mk H
   clear H
   go_wp2
   go_meet
   case rel => exact ⟨_, (true), eY, H', ⟨by first | omega | exact Nat.le_refl _⟩, ⟨qB BK254⟩, ⟨qH⟩⟩
  ·rw [if_neg c4] at H
   have c4b0 : decide (a0 < 1) = false := decide_eq_false c4
   clear c4
   (first | rw [c4b0] | (simp only [i64_w, i32_w]; rw [c4b0]) | skip)
   have H' := Aside0.mk H
   clear H
   go_wp2
   go_meet
   case rel => exact ⟨_, (decide (a0 > 512)), eY, H', ⟨by first | omega | exact Nat.le_refl _⟩, ⟨qB BK254⟩, ⟨qH⟩⟩
 case rest =>
  clear HC2
  (try clear p2)
  obtain ⟨kq, x12_1, rfl, HA, HJ1, BK254, HB⟩ := hcut
  cases kq with
  | zero => exact absurd HA.out (by simp [armadaref01_New.j0])
  | succ kj1 =>
   have H := HA.out
   clear HA
   simp only [armadaref01_New.j0] at H
   by_cases c5 : x12_1 = true
   ·subst c5
    rw [if_pos rfl] at H
    simp only [Option.some.injEq, Prod.mk.injEq] at H
    obtain ⟨rfl, rfl, rfl⟩ := H
    obtain ⟨hcz6_0, hcz6_1, hfz6_0, hfz6_1⟩ := e2_ BK254
    go_wp2
    refine bodyPost_ret (results_ct rfl _ _ gb254 25 #[.slice none 0 0, .slice none 0 0] (0, 0) _ rfl (by (with_reducible repeat (first | apply xN_ | apply xD_ | apply xA_)); refine blk_put (cs := #[.slice none 0 0, .slice none 0 0]) ?_ 1 _ rfl; refine blk_put (cs := #[.slice none 0 0, .slice none 0 0]) ?_ 0 _ rfl; (with_reducible repeat (first | apply xN_ | apply xD_ | apply xA_)); exact BK254.out) Try.underlying25 rfl (by kernel_rfl)) rfl ?_
    exact ⟨_, _, eX, by first | exact Kd.R_nil _ _ _ _ _ | exact Kd.N_nil _ _ _ _ _ | exact Kd.V_nil _ _ _ _ _ | exact Kd.Q_nil _ _ _ _ _ | exact Kd.S_nil _ _ _ _ _, by first | exact Kd.R_nil _ _ _ _ _ | exact Kd.N_nil _ _ _ _ _ | exact Kd.V_nil _ _ _ _ _ | exact Kd.Q_nil _ _ _ _ _ | exact Kd.S_nil _ _ _ _ _, qH⟩
   ·replace c5 := Bool.eq_false_iff.mpr c5
    subst c5
    rw [if_neg nF_] at H
    have H' := Aside0.mk H
    clear H
    go_wp2_with (first | ((with_reducible refine gate_dst (N := 4) rfl ?_); refine bE (N := 4) (cs := #[.slice none 0 0, .slice none 0 0]) (t := 25) ?_; intro gb255 hg w7 hbox hb; have n0_ := wB BK254 hb; have n1_ := wH hb; have n2_ := Aside0.mk (hbox); have n3_ := Aside0.mk ((qG hg)); have n4_ := Aside0.mk ((qG hg)); have n5_ := Aside0.mk ((by rw [hg]; exact Nat.ne_of_lt (blk_lt (g := gb254) (o := .cells #[.slice none 0 0, .slice none 0 0] 25 (0, 0)) (qB BK254)) : gb254 ≠ gb255)); have n6_ := Aside0.mk ((by rw [hg]; exact Nat.ne_of_gt (blk_lt (g := gb254) (o := .cells #[.slice none 0 0, .slice none 0 0] 25 (0, 0)) (qB BK254)) : gb255 ≠ gb254)); clear BK254; clear HB; have BK254 := n0_; have HB := n1_; have BK255 := n2_; have GE255 := n4_; have NB254_255 := n5_; have NB255_254 := n6_; clear n0_ n1_ n2_ n3_ n4_ n5_ n6_; clear hb hbox hg))
    go_loopg [5] kj1 (fun kq v5 w' => ∃ (x5_2 : Int) (x256000_2 : List ByteArray) (u256000 : Value), v5 = .int .i64 x5_2 ∧ Aside0 (armadaref01_New.l0 kq a0 x5_2 x256000_2 = some (r1, r2, r3)) ∧ Aside0 (kq ≤ kj1) ∧ Aside0 (Kd.R Kd.string 9 w' w.heap.size (fun _ => True) u256000 x256000_2) ∧ Aside0 (w'.heap[gb254]? = some (.cells #[(.slice none 0 0), (.slice none 0 0)] 25 (0, 0))) ∧ Aside0 (w'.heap[gb255]? = some (.cells #[u256000, (.slice none 0 0)] 25 (0, 0))) ∧ Aside0 (Below w.heap.size w w'))
    case atStart => exact ⟨(0), (([] : List ByteArray)), (.slice none 0 0), eY, H', ⟨Nat.le_refl _⟩, ⟨by first | exact Kd.R_nil _ _ _ _ _ | exact Kd.N_nil _ _ _ _ _ | exact Kd.V_nil _ _ _ _ _ | exact Kd.Q_nil _ _ _ _ _ | exact Kd.S_nil _ _ _ _ _⟩, ⟨qB BK254⟩, ⟨qB BK255⟩, ⟨qH⟩⟩
    case round =>
     clear H'
     (try clear p2); (try clear c5); (try clear p2)
     obtain ⟨x5_2, x256000_2, u256000, rfl, HA, HK2, HO_256000, BK254, BK255, HB⟩ := hrel
     cases gk with
     | zero => exact absurd HA.out (by simp [armadaref01_New.l0])
     | succ k2 =>
      have H := HA.out
      clear HA
      simp only [armadaref01_New.l0] at H
      by_cases c8 : x5_2 < a0
      ·rw [if_pos c8] at H
       have c8b0 : decide (x5_2 < a0) = true := decide_eq_true c8
       clear c8
       replace H := Option.bind_eq_some_iff.mp H
       obtain ⟨t256, A90, H⟩ := H
       try dsimp only at H
       have A9 := Aside0.mk A90
       clear A90
       by_cases c10 : x256000_2.length < 8796093022208
       ·rw [if_pos c10] at H
        have LMc10 := Aside0.mk c10
        clear c10
        obtain ⟨y257, hy257⟩ : ∃ y_ : List ByteArray, y_ = (x256000_2 ++ [t256]) := ⟨_, rfl⟩
        replace H : (armadaref01_New.l0 k2 a0 (wrap64 (x5_2 + 1)) y257) = some (r1, r2, r3) := by first | (rw [hy257]; with_reducible exact H) | (have H2_ := (Option.bind_some _ _).symm.trans H; rw [hy257]; with_reducible exact H2_) | (have H2_ := (Option.bind_some _ _).symm.trans H; with_reducible exact H2_) | with_reducible exact H | (rw [hy257]; exact H) | exact H
        have Ny257 := Aside0.mk hy257
        clear hy257
        have H' := Aside0.mk H
        clear H
        obtain ⟨hnb11, hnc11⟩ := nn_ NB255_254
        obtain ⟨hcz12_0, hcz12_1, hfz12_0, hfz12_1⟩ := e2_ BK255
        go_wp2_with (first | ((with_reducible refine gate_callee (f := 42) rfl ?_); refine gL (some 22) Try.func42 #[.string (⟨#[]⟩ : ByteArray)] ?_; (with_reducible refine (armadaref01_fill.calls k2 (⟨#[]⟩ : ByteArray) t256 _ A9.out).mono ?_); rintro e w' ⟨rfl, ⟨nd, rfl⟩⟩; refine ⟨_, rfl, ?_⟩; (try (rw [drewN_self wr]; generalize hq_ : World.drewN wr _ = wr; have n0_ : Aside0 (Kd.R Kd.string 9 wr w.heap.size (fun _ => True) u256000 x256000_2) := ⟨by rw [← hq_]; exact (qR HO_256000.out)⟩; have n1_ : Aside0 (wr.heap[gb254]? = some (.cells #[.slice none 0 0, .slice none 0 0] 25 (0, 0))) := ⟨by rw [← hq_]; exact (qB BK254)⟩; have n2_ : Aside0 (wr.heap[gb255]? = some (.cells #[u256000, .slice none 0 0] 25 (0, 0))) := ⟨by rw [← hq_]; exact (qB BK255)⟩; have n3_ : Aside0 (Below w.heap.size w wr) := ⟨by rw [← hq_]; exact qH⟩; clear HO_256000 BK254 BK255 HB hq_; have HO_256000 := n0_; have BK254 := n1_; have BK255 := n2_; have HB := n3_; clear n0_ n1_ n2_ n3_))) | (go_at_call 42; (with_reducible refine (armadaref01_fill.calls k2 (⟨#[]⟩ : ByteArray) t256 _ A9.out).mono ?_); rintro e w' ⟨rfl, ⟨nd, rfl⟩⟩) | ((with_reducible refine gate_builtin (b := .append) (xs := #[.tmp 21, .tmp 23]) rfl ?_); at_builtin; refine Kd.R_append Kd.string (w0 := w) w.heap.size rfl (.tmp 21) (.tmp 23) 22 9 (.string ⟨#[]⟩) 16 rfl Try.underlying22 info9 rfl (by decide) (by omega) u256000 x256000_2 t256 [.string t256] (fun _ => True) (fun _ => False) rfl rfl ?aP (fun _ hk => hk.elim) ?aF ?aO ?aB ?aS ?aL ?_; (case aP => exact rfl); (case aB => exact qH); (case aF => exact (fun _ _ => trivial)); (case aO => exact (qR HO_256000.out)); (case aS => exact (below_size qH)); (case aL => have := LMc10.out; omega); intro v258 w13 ho hb hg hat; rw [← Ny257.out] at ho; have n0_ := Aside0.mk (blk_grown (g := gb254) (o := .cells #[.slice none 0 0, .slice none 0 0] 25 (0, 0)) (qB BK254) hg (Kd.R_ne HO_256000.out BK254.out (by decide))); have n1_ := Aside0.mk (blk_grown (g := gb255) (o := .cells #[u256000, .slice none 0 0] 25 (0, 0)) (qB BK255) hg (Kd.R_ne HO_256000.out BK255.out (by decide))); have n2_ := Aside0.mk (hb); have n3_ := Aside0.mk (ho); clear BK254; clear BK255; clear HB; clear HO_256000; have BK254 := n0_; have BK255 := n1_; have HB := n2_; have HO259 := n3_; clear n0_ n1_ n2_ n3_; clear ho hb hg hat; obtain ⟨Ao14, co14, eo14⟩ := Kd.R_slice HO259.out; subst eo14; obtain ⟨hcz15_0, hcz15_1, hfz15_0, hfz15_1⟩ := e2_ BK255))
        go_roundg k2
        case measure => have := HJ1.out; have := HK2.out; omega
        case rel => exact ⟨(wrap64 (x5_2 + 1)), (y257), (.slice Ao14 y257.length co14), eY, H', ⟨by have := HJ1.out; have := HK2.out; omega⟩, ⟨by (with_reducible repeat (first | apply Kd.R_alloc | apply Kd.R_drewN | apply Kd.R_drew)); exact Kd.R_mono (rG1 HO259.out BK255) (fun _ hk => trivial)⟩, ⟨by (with_reducible repeat (first | apply xN_ | apply xD_ | apply xA_)); refine xR_ ?_ NB254_255.out _; (with_reducible repeat (first | apply xN_ | apply xD_ | apply xA_)); exact BK254.out⟩, ⟨by (with_reducible repeat (first | apply xN_ | apply xD_ | apply xA_)); refine blk_put (cs := #[u256000, .slice none 0 0]) ?_ 0 _ rfl; (with_reducible repeat (first | apply xN_ | apply xD_ | apply xA_)); exact BK255.out⟩, ⟨qH⟩⟩
       ·rw [if_neg c10] at H
        exact absurd H (by simp)
      ·rw [if_neg c8] at H
       have c8b0 : decide (x5_2 < a0) = false := decide_eq_false c8
       clear c8
       simp only [Option.some.injEq, Prod.mk.injEq] at H
       obtain ⟨rfl, rfl, rfl⟩ := H
       obtain ⟨hnb16, hnc16⟩ := nn_ NB255_254
       obtain ⟨hcz17_0, hcz17_1, hfz17_0, hfz17_1⟩ := e2_ BK255
       obtain ⟨Ao18, co18, eo18⟩ := Kd.R_slice HO_256000.out
       subst eo18
       obtain ⟨hcz19_0, hcz19_1, hfz19_0, hfz19_1⟩ := e2_ BK254
       go_wp2
       refine bodyPost_ret (results_ct rfl _ _ gb254 25 #[.slice Ao18 x256000_2.length co18, .slice none 0 0] (0, 0) _ rfl (by (with_reducible repeat (first | apply xN_ | apply xD_ | apply xA_)); refine blk_put (cs := #[.slice Ao18 x256000_2.length co18, .slice none 0 0]) ?_ 1 _ rfl; refine blk_put (cs := #[.slice none 0 0, .slice none 0 0]) ?_ 0 _ rfl; (with_reducible repeat (first | apply xN_ | apply xD_ | apply xA_)); exact BK254.out) Try.underlying25 rfl (by kernel_rfl)) rfl ?_
       exact ⟨_, _, eX, by (with_reducible repeat (first | apply Kd.R_alloc | apply Kd.R_drewN | apply Kd.R_drew)); exact Kd.R_mono (rG2 HO_256000.out BK254) (fun _ hk => trivial), by first | exact Kd.R_nil _ _ _ _ _ | exact Kd.N_nil _ _ _ _ _ | exact Kd.V_nil _ _ _ _ _ | exact Kd.Q_nil _ _ _ _ _ | exact Kd.S_nil _ _ _ _ _, qH⟩
def armadaref01_Crash.l0 : Nat → List Bool → List ByteArray → Int → List ByteArray → List (S29) → Option (List ByteArray × (List (S29)) × Int)
 | 0, _, _, _, _, _ => none
 | k + 1, x1, x6, x7, x261000, x261001 => if x7 < (x261001.length : Int) then (if x7 < (x1.length : Int) then (if 0 ≤ x7 then (if rdOf false x1 x7 = true then (if 0 ≤ ((rd_T29 x261001 x7).f0) then (if ((rd_T29 x261001 x7).f0) < (x6.length : Int) then (armadaref01_Crash.l0 k x1 (x6.set (((rd_T29 x261001 x7).f0) : Int).toNat ((rd_T29 x261001 x7).f1)) (wrap64 (x7 + 1)) x261000 x261001) else (none)) else (none)) else (armadaref01_Crash.l0 k x1 x6 (wrap64 (x7 + 1)) x261000 x261001)) else (none)) else (armadaref01_Crash.l0 k x1 x6 (wrap64 (x7 + 1)) x261000 x261001)) else (some (x6, ([] : List (S29)), 0))
def armadaref01_Crash.f (k : Nat) (l0_0 : List ByteArray) (l0_1 : List (S29)) (l1 : List Bool) : Option (List ByteArray × (List (S29)) × Int) := (armadaref01_May.f k l0_0 l0_1).bind fun t262 => (if t262 = true then ((some (([] : List ByteArray) : List ByteArray)).bind fun y263 => (if y263.length + l0_0.length < 8796093022208 then (armadaref01_Crash.l0 k l1 (y263 ++ l0_0) 0 l0_0 l0_1) else (none))) else (some (l0_0, l0_1, 1)))
theorem armadaref01_Crash.mono_l : ∀ k, (∀ y0 y1 y2 y3 y4, LeO (armadaref01_Crash.l0 k y0 y1 y2 y3 y4) (armadaref01_Crash.l0 (k + 1) y0 y1 y2 y3 y4))
 | 0 => fun _ _ _ _ _ r h => by simp [armadaref01_Crash.l0] at h
 | k + 1 => by
  have ih0 := armadaref01_Crash.mono_l k
  ·intro y0 y1 y2 y3 y4
   unfold armadaref01_Crash.l0
   repeat' first
   | (with_reducible exact ih0 _ _ _ _ _)
   | (with_reducible exact armadaref01_May.mono _ _ _)
   | (with_reducible exact LeO.refl _)
   | (with_reducible exact LeO.none _)
   | (with_reducible refine LeO.ite ?_ ?_)
   | (with_reducible refine LeO.bind ?_ (fun _ => ?_))
   | exact ih0 _ _ _ _ _
   | exact armadaref01_May.mono _ _ _
   | exact LeO.none _
   | refine LeO.ite ?_ ?_
   | refine LeO.bind ?_ (fun _ => ?_)
theorem armadaref01_Crash.mono : ∀ a0 a1 a2 k, LeO (armadaref01_Crash.f k a0 a1 a2) (armadaref01_Crash.f (k + 1) a0 a1 a2) := by
 intro a0 a1 a2 k
 have ih0 := armadaref01_Crash.mono_l k
 unfold armadaref01_Crash.f
 repeat' first
   | (with_reducible exact ih0 _ _ _ _ _)
   | (with_reducible exact armadaref01_May.mono _ _ _)
   | (with_reducible exact LeO.refl _)
   | (with_reducible exact LeO.none _)
   | (with_reducible refine LeO.ite ?_ ?_)
   | (with_reducible refine LeO.bind ?_ (fun _ => ?_))
   | exact ih0 _ _ _ _ _
   | exact armadaref01_May.mono _ _ _
   | exact LeO.none _
   | refine LeO.ite ?_ ?_
   | refine LeO.bind ?_ (fun _ => ?_)
def armadaref01_Crash.T8 : Bool × List (List Nat × List Nat) := (true, [([], []), ([], []), ([1], [1]), ([], []), ([2, 3], [2, 3]), ([4], [4]), ([5], [5]), ([], []), ([7], [7]), ([], []), ([8, 9], [8, 9]), ([10], [10]), ([11], [11]), ([0, 6, 0, 1, 2, 3, 4, 5, 6, 7, 8, 9, 10, 11, 12], [0, 6]), ([13, 12, 0, 1, 2, 3, 4, 5, 6, 7, 8, 9, 10, 11, 12], [12, 13])])
def armadaref01_Crash.B8 : List Nat := [0, 0, 2, 0, 14, 30, 62, 0, 128, 0, 896, 1920, 3968, 8191, 16383]
theorem armadaref01_Crash.tab8 : rtab .any (opsOf Try.f27 8) = armadaref01_Crash.T8 := by kernel_rfl
theorem armadaref01_Crash.bits8 : waitsOk armadaref01_Crash.T8.2 armadaref01_Crash.B8 = true := by kernel_rfl
set_option maxHeartbeats 8000000 in
set_option maxRecDepth 100000 in
theorem armadaref01_Crash.calls (k : Nat) (P0_0_ : Nat → Prop) (A0_0 : Option Addr) (c0_0 : Nat) (l0_0 : List ByteArray) (P0_1_ : Nat → Prop) (A0_1 : Option Addr) (c0_1 : Nat) (l0_1 : List (S29)) (A1 : Option Addr) (c1 : Nat) (l1 : List Bool) (r1 : List ByteArray) (r2 : List (S29)) (r3 : Int) (w : World) (hs0_0 : Kd.V Kd.string 9 w w.heap.size (fun k_ => P0_0_ k_) (.slice A0_0 l0_0.length c0_0) l0_0) (hs0_1 : Kd.V k29 29 w w.heap.size (fun k_ => P0_1_ k_) (.slice A0_1 l0_1.length c0_1) l0_1) (hr1 : Kd.C Kd.bool w A1 l1.length l1) (hc1 : l1.length ≤ c1) (h : armadaref01_Crash.f k l0_0 l0_1 l1 = some (r1, r2, r3)) :
  Calls Try.prog 27 #[.agg #[.slice A0_0 l0_0.length c0_0, .slice A0_1 l0_1.length c0_1], .slice A1 l1.length c1] w fun e w' => ∃ v0_ v1_ : Value, e = .returned (.tuple #[.agg #[v0_, v1_], .int .i64 r3]) ∧ Kd.V Kd.string 9 w' w.heap.size (fun k_ => ((P0_0_ k_ ∨ P0_1_ k_) ∨ w.heap.size ≤ k_)) v0_ r1 ∧ Kd.V k29 29 w' w.heap.size (fun k_ => ((P0_0_ k_ ∨ P0_1_ k_) ∨ w.heap.size ≤ k_)) v1_ r2 ∧ Below w.heap.size w w' := by
 have hu25 := Try.underlying25
 have HO0_0 := Aside0.mk (show Kd.V Kd.string 9 w w.heap.size (fun k_ => ((P0_0_ k_ ∨ P0_1_ k_) ∨ w.heap.size ≤ k_)) (.slice A0_0 l0_0.length c0_0) l0_0 from Kd.V_mono hs0_0 (fun k_ hk => .inl (.inl hk)))
 have HO0_1 := Aside0.mk (show Kd.V k29 29 w w.heap.size (fun k_ => ((P0_0_ k_ ∨ P0_1_ k_) ∨ w.heap.size ≤ k_)) (.slice A0_1 l0_1.length c0_1) l0_1 from Kd.V_mono hs0_1 (fun k_ hk => .inl (.inr hk)))
 have HR1 := Aside0.mk hr1
 have HC1 := Aside0.mk hc1
 clear hr1 hc1
 have HB := Aside0.mk (Below.refl w.heap.size w)
 have H := h
 unfold armadaref01_Crash.f at H
 clear h
 replace H := Option.bind_eq_some_iff.mp H
 obtain ⟨t262, A30, H⟩ := H
 try dsimp only at H
 have A3 := Aside0.mk A30
 clear A30
 by_cases c4 : t262 = true
 ·subst c4
  rw [if_pos rfl] at H
  obtain ⟨y263, hy263⟩ : ∃ y_ : List ByteArray, y_ = (([] : List ByteArray)) := ⟨_, rfl⟩
  replace H : (if y263.length + l0_0.length < 8796093022208 then (armadaref01_Crash.l0 k l1 (y263 ++ l0_0) 0 l0_0 l0_1) else (none)) = some (r1, r2, r3) := by first | (rw [hy263]; with_reducible exact H) | (have H2_ := (Option.bind_some _ _).symm.trans H; rw [hy263]; with_reducible exact H2_) | (have H2_ := (Option.bind_some _ _).symm.trans H; with_reducible exact H2_) | with_reducible exact H | (rw [hy263]; exact H) | exact H
  have Ny263 := Aside0.mk hy263
  clear hy263
  by_cases c5 : y263.length + l0_0.length < 8796093022208
  ·rw [if_pos c5] at H
   have LMc5 := Aside0.mk c5
   clear c5
   obtain ⟨y266, hy266⟩ : ∃ y_ : List ByteArray, y_ = (y263 ++ l0_0) := ⟨_, rfl⟩
   replace H : (armadaref01_Crash.l0 k l1 y266 0 l0_0 l0_1) = some (r1, r2, r3) := by first | (rw [hy266]; with_reducible exact H) | (have H2_ := (Option.bind_some _ _).symm.trans H; rw [hy266]; with_reducible exact H2_) | (have H2_ := (Option.bind_some _ _).symm.trans H; with_reducible exact H2_) | with_reducible exact H | (rw [hy266]; exact H) | exact H
   have Ny266 := Aside0.mk hy266
   clear hy266
   have H' := Aside0.mk H
   clear H
   go_enter Try.func27, Try.ntmps27
   go_wp2_with (first | ((with_reducible refine gate_dst (N := 2) rfl ?_); refine bE (N := 2) (cs := #[.slice A0_0 l0_0.length c0_0, .slice A0_1 l0_1.length c0_1]) (t := 25) ?_; intro gb260 hg w6 hbox hb; have n0_ := Aside0.mk (Kd.V_below (Kd.V_elderB (qV HO0_0.out) gb260 (Nat.le_of_eq hg.symm)) hb); have n1_ := Aside0.mk (Kd.V_below (Kd.V_elderB (qV HO0_1.out) gb260 (Nat.le_of_eq hg.symm)) hb); have n2_ := wH hb; have n3_ := Aside0.mk (hbox); have n4_ := Aside0.mk ((qG hg)); have n5_ := Aside0.mk ((qG hg)); clear HO0_0; clear HO0_1; clear HB; have HO0_0 := n0_; have HO0_1 := n1_; have HB := n2_; have BK260 := n3_; have GE260 := n5_; clear n0_ n1_ n2_ n3_ n4_ n5_; clear hb hbox hg) | ((with_reducible refine gate_dst (N := 4) rfl ?_); refine bE (N := 4) (cs := #[.slice none 0 0, .slice none 0 0]) (t := 25) ?_; intro gb261 hg w7 hbox hb; have n0_ := Aside0.mk (Kd.V_below (Kd.V_elderB (qV HO0_0.out) gb261 (Nat.le_of_eq hg.symm)) hb); have n1_ := Aside0.mk (Kd.V_below (Kd.V_elderB (qV HO0_1.out) gb261 (Nat.le_of_eq hg.symm)) hb); have n2_ := wB BK260 hb; have n3_ := wH hb; have n4_ := Aside0.mk (hbox); have n5_ := Aside0.mk ((qG hg)); have n6_ := Aside0.mk ((qG hg)); have n7_ := Aside0.mk ((by rw [hg]; exact Nat.ne_of_lt (blk_lt (g := gb260) (o := .cells #[.slice A0_0 l0_0.length c0_0, .slice A0_1 l0_1.length c0_1] 25 (0, 0)) (qB BK260)) : gb260 ≠ gb261)); have n8_ := Aside0.mk ((by rw [hg]; exact Nat.ne_of_gt (blk_lt (g := gb260) (o := .cells #[.slice A0_0 l0_0.length c0_0, .slice A0_1 l0_1.length c0_1] 25 (0, 0)) (qB BK260)) : gb261 ≠ gb260)); clear HO0_0; clear HO0_1; clear BK260; clear HB; have HO0_0 := n0_; have HO0_1 := n1_; have BK260 := n2_; have HB := n3_; have BK261 := n4_; have GE261 := n6_; have NB260_261 := n7_; have NB261_260 := n8_; clear n0_ n1_ n2_ n3_ n4_ n5_ n6_ n7_ n8_; clear hb hbox hg; obtain ⟨hnb8, hnc8⟩ := nn_ NB260_261; obtain ⟨hcz9_0, hcz9_1, hfz9_0, hfz9_1⟩ := e2_ BK260) | ((with_reducible refine gate_callee (f := 25) rfl ?_); refine gL (some 9) Try.func25 #[.agg #[.slice A0_0 l0_0.length c0_0, .slice A0_1 l0_1.length c0_1]] ?_; (with_reducible refine (armadaref01_May.calls k _ _ l0_0 _ _ l0_1 true _ ?side1 ?side2 ?side3 ?side4 A3.out).mono ?_); (case side1 => exact qK (Kd.V_reads' HO0_0.out).2.2); (case side2 => exact (Kd.V_reads' HO0_0.out).2.1); (case side3 => exact qK (Kd.V_reads' HO0_1.out).2.2); (case side4 => exact (Kd.V_reads' HO0_1.out).2.1); rintro e w10 ⟨rfl, hb⟩; refine ⟨_, rfl, ?_⟩; have n0_ := Aside0.mk (Kd.V_below (qV HO0_0.out) hb); have n1_ := Aside0.mk (Kd.V_below (qV HO0_1.out) hb); have n2_ := wB BK260 hb; have n3_ := wB BK261 hb; have n4_ := wH hb; clear HO0_0; clear HO0_1; clear BK260; clear BK261; clear HB; have HO0_0 := n0_; have HO0_1 := n1_; have BK260 := n2_; have BK261 := n3_; have HB := n4_; clear n0_ n1_ n2_ n3_ n4_; (try clear hb); (try clear hb2); (try clear hk); (try clear hi)) | ((with_reducible refine gate_dst (N := 12) rfl ?_); refine Kd.R_lit Kd.string _ 9 ?hg (N := 12) ?hd (xs := ([] : List ByteArray)) (inner := []) (ok := fun _ => True) (okp := fun _ => True) ?hr ?hp (fun _ hk => hk) trivial (Below.refl _ _) (Nat.le_refl _) (by simp) ?_; (case hd => rfl); (case hg => rfl); (case hr => first | (go_simp; done) | (go_simp; rfl)); (case hp => exact (Reps.none _ _)); intro v264 w11 ho12 hb hg_ hnew_; clear hg_ hnew_; (first | rw [← Ny263.out] at ho12 | (simp only [Int.reduceToNat] at ho12; rw [← Ny263.out] at ho12)); have n0_ := Aside0.mk (Kd.V_elder' (qV HO0_0.out) (Kd.R_base ho12) hb); have n1_ := Aside0.mk (Kd.V_elder' (qV HO0_1.out) (Kd.R_base ho12) hb); have n2_ := Aside0.mk (Kd.R_lower (Kd.R_newM (M := fun k_ => (w.heap.size ≤ k_)) ho12 (below_size qH) (fun k_ h_ => h_)) (below_size qH)); have n3_ := wB BK260 hb; have n4_ := wB BK261 hb; have n5_ := wH hb; clear HO0_0; clear HO0_1; clear BK260; clear BK261; clear HB; have HO0_0 := n0_; have HO0_1 := n1_; have HO265 := n2_; have BK260 := n3_; have BK261 := n4_; have HB := n5_; clear n0_ n1_ n2_ n3_ n4_ n5_; clear hb ho12; obtain ⟨hcz13_0, hcz13_1, hfz13_0, hfz13_1⟩ := e2_ BK260) | ((with_reducible refine gate_builtin (b := .append) (xs := #[.tmp 12, .tmp 14]) rfl ?_); at_builtin; refine Kd.R_append_rows Kd.string (w0 := w) w.heap.size rfl (.tmp 12) (.tmp 14) 22 9 (.string ⟨#[]⟩) 16 rfl Try.underlying22 info9 rfl (by decide) (by omega) v264 y263 l0_0 _ _ _ (fun k_ => (w.heap.size ≤ k_)) (fun _ => False) rfl rfl ?aO ?aR (fun _ _ h => h) (fun _ h => h.elim) ?aF ?aB ?aS ?aL ?_; (case aR => repeat (first | exact (Kd.V_reads' HO0_0.out).2.2 | (with_reducible refine Kd.C_alloc ?_ _) | (with_reducible refine Kd.C_drewN ?_ _) | (with_reducible refine Kd.C_drew ?_))); (case aB => exact qH); (case aF => exact (fun k_ hk => (Nat.le_trans (below_size qH) hk))); (case aO => exact (qR (Kd.R_mono HO265.out (fun _ hk => hk.1)))); (case aS => exact (below_size qH)); (case aL => have := LMc5.out; omega); intro v267 w14 ho hb hg hat; rw [← Ny266.out] at ho; have n0_ := Aside0.mk (Kd.V_afterv (ok := (fun k_ => ((P0_0_ k_ ∨ P0_1_ k_) ∨ w.heap.size ≤ k_) ∧ k_ ≠ gb260 ∧ k_ ≠ gb261)) (qV (Kd.V_mono HO0_0.out (fun _ hk => ⟨⟨hk.1.1.1, ⟨hk.1.1.2, hk.1.2⟩⟩, hk.2⟩))) hg hat); have n1_ := Aside0.mk (Kd.V_afterv (ok := (fun k_ => ((P0_0_ k_ ∨ P0_1_ k_) ∨ w.heap.size ≤ k_) ∧ k_ ≠ gb260 ∧ k_ ≠ gb261)) (qV (Kd.V_mono HO0_1.out (fun _ hk => ⟨⟨hk.1.1.1, ⟨hk.1.1.2, hk.1.2⟩⟩, hk.2⟩))) hg hat); have n2_ := Aside0.mk (blk_grown (g := gb260) (o := .cells #[.slice A0_0 l0_0.length c0_0, .slice A0_1 l0_1.length c0_1] 25 (0, 0)) (qB BK260) hg (Kd.R_ne HO265.out BK260.out (by decide))); have n3_ := Aside0.mk (blk_grown (g := gb261) (o := .cells #[.slice none 0 0, .slice none 0 0] 25 (0, 0)) (qB BK261) hg (Kd.R_ne HO265.out BK261.out (by decide))); have n4_ := Aside0.mk (hb); have n5_ := Aside0.mk (ho); clear HO0_0; clear HO0_1; clear BK260; clear BK261; clear HB; clear HO265; have HO0_0 := n0_; have HO0_1 := n1_; have BK260 := n2_; have BK261 := n3_; have HB := n4_; have HO268 := n5_; clear n0_ n1_ n2_ n3_ n4_ n5_; clear ho hb hg hat))
   go_loopg [7] k (fun kq v7 w' => ∃ (x6_1 : List ByteArray) (x7_1 : Int), v7 = .int .i64 x7_1 ∧ Aside0 (armadaref01_Crash.l0 kq l1 x6_1 x7_1 l0_0 l0_1 = some (r1, r2, r3)) ∧ Aside0 (kq ≤ k) ∧ Aside0 (Kd.R Kd.string 9 w' w.heap.size (fun k_ => (w.heap.size ≤ k_)) v267 x6_1) ∧ Aside0 (Kd.V Kd.string 9 w' w.heap.size (fun k_ => ((P0_0_ k_ ∨ P0_1_ k_) ∨ w.heap.size ≤ k_) ∧ some k_ ≠ (v267 : Value).ownBlock ∧ k_ ≠ gb260 ∧ k_ ≠ gb261) (.slice A0_0 l0_0.length c0_0) l0_0) ∧ Aside0 (Kd.V k29 29 w' w.heap.size (fun k_ => ((P0_0_ k_ ∨ P0_1_ k_) ∨ w.heap.size ≤ k_) ∧ some k_ ≠ (v267 : Value).ownBlock ∧ k_ ≠ gb260 ∧ k_ ≠ gb261) (.slice A0_1 l0_1.length c0_1) l0_1) ∧ Aside0 (w'.heap[gb260]? = some (.cells #[(.slice A0_0 l0_0.length c0_0), (.slice A0_1 l0_1.length c0_1)] 25 (0, 0))) ∧ Aside0 (w'.heap[gb261]? = some (.cells #[(.slice none 0 0), (.slice none 0 0)] 25 (0, 0))) ∧ Aside0 (Below w.heap.size w w'))
   case atStart => exact ⟨(y266), (0), eY, H', ⟨Nat.le_refl _⟩, ⟨qR HO268.out⟩, ⟨by (with_reducible repeat (first | apply Kd.V_alloc | apply Kd.V_drewN | apply Kd.V_drew)); exact Kd.V_mono HO0_0.out (fun _ hk => ⟨hk.1.1, ⟨hk.2, ⟨hk.1.2.1, hk.1.2.2⟩⟩⟩)⟩, ⟨by (with_reducible repeat (first | apply Kd.V_alloc | apply Kd.V_drewN | apply Kd.V_drew)); exact Kd.V_mono HO0_1.out (fun _ hk => ⟨hk.1.1, ⟨hk.2, ⟨hk.1.2.1, hk.1.2.2⟩⟩⟩)⟩, ⟨qB BK260⟩, ⟨qB BK261⟩, ⟨qH⟩⟩
   case round =>
    clear H'
    (try clear p2); (try clear c4); (try clear hcz13_0); (try clear hcz13_1); (try clear hcz9_0); (try clear hcz9_1); (try clear hfz13_0); (try clear hfz13_1); (try clear hfz9_0)
    (try clear hfz9_1)
    obtain ⟨x6_1, x7_1, rfl, HA, HK1, HO_6, HO_261000, HO_261001, BK260, BK261, HB⟩ := hrel
    cases gk with
    | zero => exact absurd HA.out (by simp [armadaref01_Crash.l0])
    | succ k1 =>
     have H := HA.out
     clear HA
     simp only [armadaref01_Crash.l0] at H
     by_cases c15 : x7_1 < (l0_1.length : Int)
     ·rw [if_pos c15] at H
      have c15b0 : decide (x7_1 < (l0_1.length : Int)) = true := decide_eq_true c15
      clear c15
      by_cases c16 : x7_1 < (l1.length : Int)
      ·rw [if_pos c16] at H
       have c16b0 : decide (x7_1 < (l1.length : Int)) = true := decide_eq_true c16
       clear c16
       by_cases c17 : 0 ≤ x7_1
       ·rw [if_pos c17] at H
        have c17b0 : decide (0 ≤ x7_1) = true := decide_eq_true c17
        clear c17
        obtain ⟨bq18, hbq18⟩ : ∃ b_ : Bool, b_ = (rdOf false l1 x7_1) := ⟨_, rfl⟩
        replace H : (if bq18 = true then (if 0 ≤ ((rd_T29 l0_1 x7_1).f0) then (if ((rd_T29 l0_1 x7_1).f0) < (x6_1.length : Int) then (armadaref01_Crash.l0 k1 l1 (x6_1.set (((rd_T29 l0_1 x7_1).f0) : Int).toNat ((rd_T29 l0_1 x7_1).f1)) (wrap64 (x7_1 + 1)) l0_0 l0_1) else (none)) else (none)) else (armadaref01_Crash.l0 k1 l1 x6_1 (wrap64 (x7_1 + 1)) l0_0 l0_1)) = some (r1, r2, r3) := by rw [← hbq18] at H; exact H
        have Nbq18 := Aside0.mk hbq18
        clear hbq18
        by_cases c19 : bq18 = true
        ·subst c19
         rw [if_pos rfl] at H
         by_cases c20 : 0 ≤ ((rd_T29 l0_1 x7_1).f0)
         ·rw [if_pos c20] at H
          have c20b0 : decide (0 ≤ ((rd_T29 l0_1 x7_1).f0)) = true := decide_eq_true c20
          clear c20
          by_cases c21 : ((rd_T29 l0_1 x7_1).f0) < (x6_1.length : Int)
          ·rw [if_pos c21] at H
           have c21b0 : decide (((rd_T29 l0_1 x7_1).f0) < (x6_1.length : Int)) = true := decide_eq_true c21
           clear c21
           obtain ⟨y272, hy272⟩ : ∃ y_ : List ByteArray, y_ = (x6_1.set (((rd_T29 l0_1 x7_1).f0) : Int).toNat ((rd_T29 l0_1 x7_1).f1)) := ⟨_, rfl⟩
           replace H : (armadaref01_Crash.l0 k1 l1 y272 (wrap64 (x7_1 + 1)) l0_0 l0_1) = some (r1, r2, r3) := by first | (rw [hy272]; with_reducible exact H) | (have H2_ := (Option.bind_some _ _).symm.trans H; rw [hy272]; with_reducible exact H2_) | (have H2_ := (Option.bind_some _ _).symm.trans H; with_reducible exact H2_) | with_reducible exact H | (rw [hy272]; exact H) | exact H
           have Ny272 := Aside0.mk hy272
           clear hy272
           have H' := Aside0.mk H
           clear H
           obtain ⟨hnb23, hnc23⟩ := nn_ NB260_261
           obtain ⟨hcz24_0, hcz24_1, hfz24_0, hfz24_1⟩ := e2_ BK260
           have p269 : 0 ≤ (x7_1 : Int) := of_decide_eq_true aS
           have q269 : x7_1 < (l1.length : Int) := of_decide_eq_true aS
           obtain ⟨ad269, e269, hx269_0⟩ := Kd.at_bool HR1.out x7_1 p269 q269
           (try rw [← Nbq18.out] at hx269_0)
           cases e269
           replace hx269_0 := (HB.out.cell (World.block_lt_of_cell? w _ hx269_0)).trans hx269_0
           replace p269 := eq_true p269
           replace q269 := eq_true q269
           try go_wp2
           have n0_ := Aside0.mk (Kd.R_drew HO_6.out)
           have n1_ := Aside0.mk (Kd.V_drew HO_261000.out)
           have n2_ := Aside0.mk (Kd.V_drew HO_261001.out)
           have n3_ := Aside0.mk (xD_ BK260.out)
           have n4_ := Aside0.mk (xD_ BK261.out)
           have n5_ := Aside0.mk (yD_ HB.out)
           clear HO_6
           clear HO_261000
           clear HO_261001
           clear BK260
           clear BK261
           clear HB
           have HO_6 := n0_
           have HO_261000 := n1_
           have HO_261001 := n2_
           have BK260 := n3_
           have BK261 := n4_
           have HB := n5_
           clear n0_ n1_ n2_ n3_ n4_ n5_
           have p270 : 0 ≤ (x7_1 : Int) := of_decide_eq_true aS
           have q270 : x7_1 < (l0_1.length : Int) := of_decide_eq_true aS
           obtain ⟨ad270, e270, hx270_0, hx270_1⟩ := at_T29 (Kd.V_reads' HO_261001.out).2.2 x7_1 p270 q270
           cases e270
           replace p270 := eq_true p270
           replace q270 := eq_true q270
           have p271 : 0 ≤ (x7_1 : Int) := of_decide_eq_true aS
           have q271 : x7_1 < (l0_1.length : Int) := of_decide_eq_true aS
           obtain ⟨ad271, e271, hx271_0, hx271_1⟩ := at_T29 (Kd.V_reads' HO_261001.out).2.2 x7_1 p271 q271
           obtain rfl : ad270 = ad271 := (by injection e271)
           replace p271 := eq_true p271
           replace q271 := eq_true q271
           have p22 : 0 ≤ (((rd_T29 l0_1 x7_1).f0) : Int) := of_decide_eq_true aS
           have q22 : (((rd_T29 l0_1 x7_1).f0) : Int) < ((x6_1.length : Int) : Int) := of_decide_eq_true aS
           obtain ⟨go22, co22, eo22, gb22, gl22, cl22, HG22⟩ := Kd.R_form HO_6.out (by omega)
           (first | cases eo22 | (injection eo22 with ea_ en_ ec_; (first | subst ea_ | (injection ea_ with ea_; subst ea_)); subst ec_; clear en_))
           have GB22 := Aside0.mk gb22
           have GG22 := Aside0.mk HG22
           clear gb22 gl22 HG22
           obtain ⟨hx22_0, hf22_0⟩ := Kd.R_celln (⟨#[]⟩ : ByteArray) HO_6.out (((rd_T29 l0_1 x7_1).f0) : Int) p22 q22
           replace p22 := eq_true p22
           replace q22 := eq_true q22
           have HP26 := Kd.R_putn HO_6.out (((rd_T29 l0_1 x7_1).f0) : Int) ((rd_T29 l0_1 x7_1).f1)
           rw [← Ny272.out] at HP26
           have HQ26 := Aside0.mk HP26
           clear HP26
           refine start_ (n := 15) (S := fun w' => w'.cell? ⟨gb260, 0, none⟩ = some (.slice A0_0 l0_0.length c0_0) ∧ w'.cell? ⟨gb260, 1, none⟩ = some (.slice (some ad270) l0_1.length c0_1) ∧ w'.cell? (ad270.add ((x7_1).toNat * 2)) = some (.int .i64 ((rd_T29 l0_1 x7_1).f0)) ∧ w'.cell? ⟨(ad270.add ((x7_1).toNat * 2)).block, (ad270.add ((x7_1).toNat * 2)).off + 1, none⟩ = some (.string ((rd_T29 l0_1 x7_1).f1)) ∧ w'.cell? (ad270.add ((x7_1).toNat * 2)) = some (.int .i64 ((rd_T29 l0_1 x7_1).f0)) ∧ w'.cell? ⟨(ad270.add ((x7_1).toNat * 2)).block, (ad270.add ((x7_1).toNat * 2)).off + 1, none⟩ = some (.string ((rd_T29 l0_1 x7_1).f1))) (ds := [14]) #[F_,F_,F_,F_,F_,F_,F_,F_,F_,F_,F_,F_,F_,F_,F_] (by kernel_rfl) rfl rfl ⟨c0_ BK260, c1_ BK260, hx270_0, hx270_1, hx271_0, hx271_1⟩ (fun hHeld => ?_); refine with_tabW armadaref01_Crash.tab8 armadaref01_Crash.bits8 (fun HT_ HW_ => ?_)
           generalize wr.drew = w25 at HO_6 HO_261000 HO_261001 BK260 BK261 HB GG22 HQ26 hf22_0 hx22_0 hx270_0 hx270_1 hx271_0 hx271_1 hHeld ⊢
           refine pU 0 (some 33) #[T_,F_,F_,F_,F_,F_,F_,F_,F_,F_,F_,F_,F_,F_,F_] HT_ ?_
           refine pU 1 (some 34) #[T_,T_,F_,F_,F_,F_,F_,F_,F_,F_,F_,F_,F_,F_,F_] HT_ ?_
           refine pU 3 (some 36) #[T_,T_,F_,T_,F_,F_,F_,F_,F_,F_,F_,F_,F_,F_,F_] HT_ ?_
           refine pU 7 (some 40) #[T_,T_,F_,T_,F_,F_,F_,T_,F_,F_,F_,F_,F_,F_,F_] HT_ ?_
           refine pU 9 (some 42) #[T_,T_,F_,T_,F_,F_,F_,T_,F_,T_,F_,F_,F_,F_,F_] HT_ ?_
           refine tK 2 (some 35) #[T_,T_,T_,T_,F_,F_,F_,T_,F_,T_,F_,F_,F_,F_,F_] HT_ HW_ hHeld ?_
           refine pU 4 (some 37) #[T_,T_,T_,T_,T_,F_,F_,T_,F_,T_,F_,F_,F_,F_,F_] HT_ ?_
           refine pU 5 (some 38) #[T_,T_,T_,T_,T_,T_,F_,T_,F_,T_,F_,F_,F_,F_,F_] HT_ ?_
           refine tK 6 (some 39) #[T_,T_,T_,T_,T_,T_,T_,T_,F_,T_,F_,F_,F_,F_,F_] HT_ HW_ hHeld ?_
           refine tK 8 (some 41) #[T_,T_,T_,T_,T_,T_,T_,T_,T_,T_,F_,F_,F_,F_,F_] HT_ HW_ hHeld ?_
           refine pU 10 (some 43) #[T_,T_,T_,T_,T_,T_,T_,T_,T_,T_,T_,F_,F_,F_,F_] HT_ ?_
           refine pU 11 (some 44) #[T_,T_,T_,T_,T_,T_,T_,T_,T_,T_,T_,T_,F_,F_,F_] HT_ ?_
           refine tK 12 (some 45) #[T_,T_,T_,T_,T_,T_,T_,T_,T_,T_,T_,T_,T_,F_,F_] HT_ HW_ hHeld ?_
           refine pU 13 (some 46) #[T_,T_,T_,T_,T_,T_,T_,T_,T_,T_,T_,T_,T_,T_,F_] HT_ ?_
           refine last_ (i := 14) (N := none) #[T_,T_,T_,T_,T_,T_,T_,T_,T_,T_,T_,T_,T_,T_,T_] rfl rfl (one_of HT_.out (by kernel_rfl)) (by decide) (fun K hK => ?_)
           refine skip_ (w1 := ?_) (by rfl) rfl ?_ ?_
           rotate_left
           ·go_simp
            rfl
           refine hK.out _ _ ?_
           clear hK K
           refine done_ (done_of HT_.out (by kernel_rfl)) ?_
           try go_wp2
           go_roundg k1
           case measure => have := HK1.out; omega
           case rel => exact ⟨(y272), (wrap64 (x7_1 + 1)), eY, H', ⟨by have := HK1.out; omega⟩, ⟨by (with_reducible repeat (first | apply Kd.R_alloc | apply Kd.R_drewN | apply Kd.R_drew)); exact HQ26.out⟩, ⟨by (with_reducible repeat (first | apply Kd.V_alloc | apply Kd.V_drewN | apply Kd.V_drew)); exact Kd.V_mono (Kd.V_far (p := ⟨go22, (((rd_T29 l0_1 x7_1).f0) : Int).toNat, none⟩) (Kd.V_mono HO_261000.out (fun k_ hk => (⟨hk, fun e_ => hk.2.1 (by rw [e_]; rfl)⟩ : _ ∧ k_ ≠ go22))) (fun _ hk => hk.2) (.string ((rd_T29 l0_1 x7_1).f1))) (fun _ hk => ⟨hk.1.1, ⟨hk.1.2.1, ⟨hk.1.2.2.1, hk.1.2.2.2⟩⟩⟩)⟩, ⟨by (with_reducible repeat (first | apply Kd.V_alloc | apply Kd.V_drewN | apply Kd.V_drew)); exact Kd.V_mono (Kd.V_far (p := ⟨go22, (((rd_T29 l0_1 x7_1).f0) : Int).toNat, none⟩) (Kd.V_mono HO_261001.out (fun k_ hk => (⟨hk, fun e_ => hk.2.1 (by rw [e_]; rfl)⟩ : _ ∧ k_ ≠ go22))) (fun _ hk => hk.2) (.string ((rd_T29 l0_1 x7_1).f1))) (fun _ hk => ⟨hk.1.1, ⟨hk.1.2.1, ⟨hk.1.2.2.1, hk.1.2.2.2⟩⟩⟩)⟩, ⟨by (with_reducible repeat (first | apply xN_ | apply xD_ | apply xA_)); refine xR_ ?_ (by have h_ := Kd.R_ne HO_6.out BK260.out (by decide); intro e_; exact h_ (by rw [e_]; rfl)) _; (with_reducible repeat (first | apply xN_ | apply xD_ | apply xA_)); exact BK260.out⟩, ⟨by (with_reducible repeat (first | apply xN_ | apply xD_ | apply xA_)); refine xR_ ?_ (by have h_ := Kd.R_ne HO_6.out BK261.out (by decide); intro e_; exact h_ (by rw [e_]; rfl)) _; (with_reducible repeat (first | apply xN_ | apply xD_ | apply xA_)); exact BK261.out⟩, ⟨by repeat (first | (with_reducible first | exact HB.out | apply yA_ | apply yN_ | apply yD_ | refine yS_ ?_ GB22.out | refine yS_ ?_ GE260.out | refine yS_ ?_ GE261.out) | exact HB.out)⟩⟩
          ·rw [if_neg c21] at H
           exact absurd H (by simp)
         ·rw [if_neg c20] at H
          exact absurd H (by simp)
        ·replace c19 := Bool.eq_false_iff.mpr c19
         subst c19
         rw [if_neg nF_] at H
         have H' := Aside0.mk H
         clear H
         obtain ⟨hnb27, hnc27⟩ := nn_ NB260_261
         obtain ⟨hcz28_0, hcz28_1, hfz28_0, hfz28_1⟩ := e2_ BK260
         have p269 : 0 ≤ (x7_1 : Int) := of_decide_eq_true aS
         have q269 : x7_1 < (l1.length : Int) := of_decide_eq_true aS
         obtain ⟨ad269, e269, hx269_0⟩ := Kd.at_bool HR1.out x7_1 p269 q269
         (try rw [← Nbq18.out] at hx269_0)
         cases e269
         replace hx269_0 := (HB.out.cell (World.block_lt_of_cell? w _ hx269_0)).trans hx269_0
         replace p269 := eq_true p269
         replace q269 := eq_true q269
         go_wp2
         go_roundg k1
         case measure => have := HK1.out; omega
         case rel => exact ⟨(x6_1), (wrap64 (x7_1 + 1)), eY, H', ⟨by have := HK1.out; omega⟩, ⟨qR HO_6.out⟩, ⟨qV HO_261000.out⟩, ⟨qV HO_261001.out⟩, ⟨qB BK260⟩, ⟨qB BK261⟩, ⟨qH⟩⟩
       ·rw [if_neg c17] at H
        exact absurd H (by simp)
      ·rw [if_neg c16] at H
       have c16b0 : decide (x7_1 < (l1.length : Int)) = false := decide_eq_false c16
       clear c16
       have H' := Aside0.mk H
       clear H
       obtain ⟨hnb29, hnc29⟩ := nn_ NB260_261
       obtain ⟨hcz30_0, hcz30_1, hfz30_0, hfz30_1⟩ := e2_ BK260
       go_wp2
       go_roundg k1
       case measure => have := HK1.out; omega
       case rel => exact ⟨(x6_1), (wrap64 (x7_1 + 1)), eY, H', ⟨by have := HK1.out; omega⟩, ⟨qR HO_6.out⟩, ⟨qV HO_261000.out⟩, ⟨qV HO_261001.out⟩, ⟨qB BK260⟩, ⟨qB BK261⟩, ⟨qH⟩⟩
     ·rw [if_neg c15] at H
      have c15b0 : decide (x7_1 < (l0_1.length : Int)) = false := decide_eq_false c15
      clear c15
      simp only [Option.some.injEq, Prod.mk.injEq] at H
      obtain ⟨rfl, rfl, rfl⟩ := H
      obtain ⟨hnb31, hnc31⟩ := nn_ NB260_261
      obtain ⟨hcz32_0, hcz32_1, hfz32_0, hfz32_1⟩ := e2_ BK260
      obtain ⟨Ao33, co33, eo33⟩ := Kd.R_slice HO_6.out
      subst eo33
      obtain ⟨hcz34_0, hcz34_1, hfz34_0, hfz34_1⟩ := e2_ BK261
      go_wp2
      refine bodyPost_ret (results_ct rfl _ _ gb261 25 #[.slice Ao33 x6_1.length co33, .slice none 0 0] (0, 0) _ rfl (by (with_reducible repeat (first | apply xN_ | apply xD_ | apply xA_)); refine blk_put (cs := #[.slice Ao33 x6_1.length co33, .slice none 0 0]) ?_ 1 _ rfl; refine blk_put (cs := #[.slice none 0 0, .slice none 0 0]) ?_ 0 _ rfl; (with_reducible repeat (first | apply xN_ | apply xD_ | apply xA_)); exact BK261.out) Try.underlying25 rfl (by kernel_rfl)) rfl ?_
      exact ⟨_, _, eX, Kd.V_mono (Kd.R_V (qR (Kd.R_mono (rG2 HO_6.out BK261) (fun _ hk => hk.1)))) (fun k_ hk => by first | exact ⟨(.inr (hk.1)), hk.2⟩ | exact (.inr (hk))), Kd.V_nil _ _ _ _ _, qH⟩
  ·rw [if_neg c5] at H
   exact absurd H (by simp)
 ·replace c4 := Bool.eq_false_iff.mpr c4
  subst c4
  rw [if_neg nF_] at H
  simp only [Option.some.injEq, Prod.mk.injEq] at H
  obtain ⟨rfl, rfl, rfl⟩ := H
  go_enter Try.func27, Try.ntmps27
  go_wp2_with (first | ((with_reducible refine gate_dst (N := 2) rfl ?_); refine bE (N := 2) (cs := #[.slice A0_0 l0_0.length c0_0, .slice A0_1 l0_1.length c0_1]) (t := 25) ?_; intro gb260 hg w35 hbox hb; have n0_ := Aside0.mk (Kd.V_below (Kd.V_elderB (qV HO0_0.out) gb260 (Nat.le_of_eq hg.symm)) hb); have n1_ := Aside0.mk (Kd.V_below (Kd.V_elderB (qV HO0_1.out) gb260 (Nat.le_of_eq hg.symm)) hb); have n2_ := wH hb; have n3_ := Aside0.mk (hbox); have n4_ := Aside0.mk ((qG hg)); have n5_ := Aside0.mk ((qG hg)); clear HO0_0; clear HO0_1; clear HB; have HO0_0 := n0_; have HO0_1 := n1_; have HB := n2_; have BK260 := n3_; have GE260 := n5_; clear n0_ n1_ n2_ n3_ n4_ n5_; clear hb hbox hg) | ((with_reducible refine gate_dst (N := 4) rfl ?_); refine bE (N := 4) (cs := #[.slice none 0 0, .slice none 0 0]) (t := 25) ?_; intro gb261 hg w36 hbox hb; have n0_ := Aside0.mk (Kd.V_below (Kd.V_elderB (qV HO0_0.out) gb261 (Nat.le_of_eq hg.symm)) hb); have n1_ := Aside0.mk (Kd.V_below (Kd.V_elderB (qV HO0_1.out) gb261 (Nat.le_of_eq hg.symm)) hb); have n2_ := wB BK260 hb; have n3_ := wH hb; have n4_ := Aside0.mk (hbox); have n5_ := Aside0.mk ((qG hg)); have n6_ := Aside0.mk ((qG hg)); have n7_ := Aside0.mk ((by rw [hg]; exact Nat.ne_of_lt (blk_lt (g := gb260) (o := .cells #[.slice A0_0 l0_0.length c0_0, .slice A0_1 l0_1.length c0_1] 25 (0, 0)) (qB BK260)) : gb260 ≠ gb261)); have n8_ := Aside0.mk ((by rw [hg]; exact Nat.ne_of_gt (blk_lt (g := gb260) (o := .cells #[.slice A0_0 l0_0.length c0_0, .slice A0_1 l0_1.length c0_1] 25 (0, 0)) (qB BK260)) : gb261 ≠ gb260)); clear HO0_0; clear HO0_1; clear BK260; clear HB; have HO0_0 := n0_; have HO0_1 := n1_; have BK260 := n2_; have HB := n3_; have BK261 := n4_; have GE261 := n6_; have NB260_261 := n7_; have NB261_260 := n8_; clear n0_ n1_ n2_ n3_ n4_ n5_ n6_ n7_ n8_; clear hb hbox hg; obtain ⟨hnb37, hnc37⟩ := nn_ NB260_261; obtain ⟨hcz38_0, hcz38_1, hfz38_0, hfz38_1⟩ := e2_ BK260) | ((with_reducible refine gate_callee (f := 25) rfl ?_); refine gL (some 9) Try.func25 #[.agg #[.slice A0_0 l0_0.length c0_0, .slice A0_1 l0_1.length c0_1]] ?_; (with_reducible refine (armadaref01_May.calls k _ _ l0_0 _ _ l0_1 false _ ?side1 ?side2 ?side3 ?side4 A3.out).mono ?_); (case side1 => exact qK (Kd.V_reads' HO0_0.out).2.2); (case side2 => exact (Kd.V_reads' HO0_0.out).2.1); (case side3 => exact qK (Kd.V_reads' HO0_1.out).2.2); (case side4 => exact (Kd.V_reads' HO0_1.out).2.1); rintro e w39 ⟨rfl, hb⟩; refine ⟨_, rfl, ?_⟩; have n0_ := Aside0.mk (Kd.V_below (qV HO0_0.out) hb); have n1_ := Aside0.mk (Kd.V_below (qV HO0_1.out) hb); have n2_ := wB BK260 hb; have n3_ := wB BK261 hb; have n4_ := wH hb; clear HO0_0; clear HO0_1; clear BK260; clear BK261; clear HB; have HO0_0 := n0_; have HO0_1 := n1_; have BK260 := n2_; have BK261 := n3_; have HB := n4_; clear n0_ n1_ n2_ n3_ n4_; (try clear hb); (try clear hb2); (try clear hk); (try clear hi); obtain ⟨hcz40_0, hcz40_1, hfz40_0, hfz40_1⟩ := e2_ BK260; obtain ⟨hcz41_0, hcz41_1, hfz41_0, hfz41_1⟩ := e2_ BK261))
  refine bodyPost_ret (results_ct rfl _ _ gb261 25 #[.slice A0_0 l0_0.length c0_0, .slice A0_1 l0_1.length c0_1] (0, 0) _ rfl (by (with_reducible repeat (first | apply xN_ | apply xD_ | apply xA_)); refine blk_put (cs := #[.slice A0_0 l0_0.length c0_0, .slice none 0 0]) ?_ 1 _ rfl; refine blk_put (cs := #[.slice none 0 0, .slice none 0 0]) ?_ 0 _ rfl; (with_reducible repeat (first | apply xN_ | apply xD_ | apply xA_)); exact BK261.out) Try.underlying25 rfl (by kernel_rfl)) rfl ?_
  exact ⟨_, _, eX, by (with_reducible repeat (first | apply Kd.V_alloc | apply Kd.V_drewN | apply Kd.V_drew)); exact Kd.V_mono (vG2 (g := gb261) HO0_0.out (fun _ hk => hk.2)) (fun _ hk => hk.1.1.1), by (with_reducible repeat (first | apply Kd.V_alloc | apply Kd.V_drewN | apply Kd.V_drew)); exact Kd.V_mono (vG2 (g := gb261) HO0_1.out (fun _ hk => hk.2)) (fun _ hk => hk.1.1.1), qH⟩
def armadaref01_Flush.l0 : Nat → List Bool → Int → List ByteArray → List (S29) → Option (List ByteArray × (List (S29)) × Int)
 | 0, _, _, _, _ => none
 | k + 1, x4, x5, x274000, x274001 => if x5 < (x274001.length : Int) then (if x4.length < 140737488355328 then (armadaref01_Flush.l0 k (x4 ++ [true]) (wrap64 (x5 + 1)) x274000 x274001) else (none)) else ((armadaref01_Crash.f k x274000 x274001 x4).bind fun bt278 => (some (bt278.1, bt278.2.1, bt278.2.2)))
def armadaref01_Flush.f (k : Nat) (l0_0 : List ByteArray) (l0_1 : List (S29)) : Option (List ByteArray × (List (S29)) × Int) := armadaref01_Flush.l0 k ([] : List Bool) 0 l0_0 l0_1
theorem armadaref01_Flush.mono_l : ∀ k, (∀ y0 y1 y2 y3, LeO (armadaref01_Flush.l0 k y0 y1 y2 y3) (armadaref01_Flush.l0 (k + 1) y0 y1 y2 y3))
 | 0 => fun _ _ _ _ r h => by simp [armadaref01_Flush.l0] at h
 | k + 1 => by
  have ih0 := armadaref01_Flush.mono_l k
  ·intro y0 y1 y2 y3
   unfold armadaref01_Flush.l0
   repeat' first
   | (with_reducible exact ih0 _ _ _ _)
   | (with_reducible exact armadaref01_Crash.mono _ _ _ _)
   | (with_reducible exact LeO.refl _)
   | (with_reducible exact LeO.none _)
   | (with_reducible refine LeO.ite ?_ ?_)
   | (with_reducible refine LeO.bind ?_ (fun _ => ?_))
   | exact ih0 _ _ _ _
   | exact armadaref01_Crash.mono _ _ _ _
   | exact LeO.none _
   | refine LeO.ite ?_ ?_
   | refine LeO.bind ?_ (fun _ => ?_)
theorem armadaref01_Flush.mono : ∀ a0 a1 k, LeO (armadaref01_Flush.f k a0 a1) (armadaref01_Flush.f (k + 1) a0 a1) := by
 intro a0 a1 k
 have ih0 := armadaref01_Flush.mono_l k
 unfold armadaref01_Flush.f
 repeat' first
   | (with_reducible exact ih0 _ _ _ _)
   | (with_reducible exact armadaref01_Crash.mono _ _ _ _)
   | (with_reducible exact LeO.refl _)
   | (with_reducible exact LeO.none _)
   | (with_reducible refine LeO.ite ?_ ?_)
   | (with_reducible refine LeO.bind ?_ (fun _ => ?_))
   | exact ih0 _ _ _ _
   | exact armadaref01_Crash.mono _ _ _ _
   | exact LeO.none _
   | refine LeO.ite ?_ ?_
   | refine LeO.bind ?_ (fun _ => ?_)
set_option maxHeartbeats 8000000 in
set_option maxRecDepth 100000 in
theorem armadaref01_Flush.calls (k : Nat) (P0_0_ : Nat → Prop) (A0_0 : Option Addr) (c0_0 : Nat) (l0_0 : List ByteArray) (P0_1_ : Nat → Prop) (A0_1 : Option Addr) (c0_1 : Nat) (l0_1 : List (S29)) (r1 : List ByteArray) (r2 : List (S29)) (r3 : Int) (w : World) (hs0_0 : Kd.V Kd.string 9 w w.heap.size (fun k_ => P0_0_ k_) (.slice A0_0 l0_0.length c0_0) l0_0) (hs0_1 : Kd.V k29 29 w w.heap.size (fun k_ => P0_1_ k_) (.slice A0_1 l0_1.length c0_1) l0_1) (h : armadaref01_Flush.f k l0_0 l0_1 = some (r1, r2, r3)) :
  Calls Try.prog 49 #[.agg #[.slice A0_0 l0_0.length c0_0, .slice A0_1 l0_1.length c0_1]] w fun e w' => ∃ v0_ v1_ : Value, e = .returned (.tuple #[.agg #[v0_, v1_], .int .i64 r3]) ∧ Kd.V Kd.string 9 w' w.heap.size (fun k_ => ((P0_0_ k_ ∨ P0_1_ k_) ∨ w.heap.size ≤ k_)) v0_ r1 ∧ Kd.V k29 29 w' w.heap.size (fun k_ => ((P0_0_ k_ ∨ P0_1_ k_) ∨ w.heap.size ≤ k_)) v1_ r2 ∧ Below w.heap.size w w' := by
 have hu25 := Try.underlying25
 have HO0_0 := Aside0.mk (show Kd.V Kd.string 9 w w.heap.size (fun k_ => ((P0_0_ k_ ∨ P0_1_ k_) ∨ w.heap.size ≤ k_)) (.slice A0_0 l0_0.length c0_0) l0_0 from Kd.V_mono hs0_0 (fun k_ hk => .inl (.inl hk)))
 have HO0_1 := Aside0.mk (show Kd.V k29 29 w w.heap.size (fun k_ => ((P0_0_ k_ ∨ P0_1_ k_) ∨ w.heap.size ≤ k_)) (.slice A0_1 l0_1.length c0_1) l0_1 from Kd.V_mono hs0_1 (fun k_ hk => .inl (.inr hk)))
 have HB := Aside0.mk (Below.refl w.heap.size w)
 have H : (armadaref01_Flush.l0 k ([] : List Bool) 0 l0_0 l0_1) = some (r1, r2, r3) := h
 clear h
 have H' := Aside0.mk H
 clear H
 go_enter Try.func49, Try.ntmps49
 go_wp2_with (first | ((with_reducible refine gate_dst (N := 1) rfl ?_); refine bE (N := 1) (cs := #[.slice A0_0 l0_0.length c0_0, .slice A0_1 l0_1.length c0_1]) (t := 25) ?_; intro gb273 hg w2 hbox hb; have n0_ := Aside0.mk (Kd.V_below (Kd.V_elderB (qV HO0_0.out) gb273 (Nat.le_of_eq hg.symm)) hb); have n1_ := Aside0.mk (Kd.V_below (Kd.V_elderB (qV HO0_1.out) gb273 (Nat.le_of_eq hg.symm)) hb); have n2_ := wH hb; have n3_ := Aside0.mk (hbox); have n4_ := Aside0.mk ((qG hg)); have n5_ := Aside0.mk ((qG hg)); clear HO0_0; clear HO0_1; clear HB; have HO0_0 := n0_; have HO0_1 := n1_; have HB := n2_; have BK273 := n3_; have GE273 := n5_; clear n0_ n1_ n2_ n3_ n4_ n5_; clear hb hbox hg) | ((with_reducible refine gate_dst (N := 2) rfl ?_); refine bE (N := 2) (cs := #[.slice none 0 0, .slice none 0 0]) (t := 25) ?_; intro gb274 hg w3 hbox hb; have n0_ := Aside0.mk (Kd.V_below (Kd.V_elderB (qV HO0_0.out) gb274 (Nat.le_of_eq hg.symm)) hb); have n1_ := Aside0.mk (Kd.V_below (Kd.V_elderB (qV HO0_1.out) gb274 (Nat.le_of_eq hg.symm)) hb); have n2_ := wB BK273 hb; have n3_ := wH hb; have n4_ := Aside0.mk (hbox); have n5_ := Aside0.mk ((qG hg)); have n6_ := Aside0.mk ((qG hg)); have n7_ := Aside0.mk ((by rw [hg]; exact Nat.ne_of_lt (blk_lt (g := gb273) (o := .cells #[.slice A0_0 l0_0.length c0_0, .slice A0_1 l0_1.length c0_1] 25 (0, 0)) (qB BK273)) : gb273 ≠ gb274)); have n8_ := Aside0.mk ((by rw [hg]; exact Nat.ne_of_gt (blk_lt (g := gb273) (o := .cells #[.slice A0_0 l0_0.length c0_0, .slice A0_1 l0_1.length c0_1] 25 (0, 0)) (qB BK273)) : gb274 ≠ gb273)); clear HO0_0; clear HO0_1; clear BK273; clear HB; have HO0_0 := n0_; have HO0_1 := n1_; have BK273 := n2_; have HB := n3_; have BK274 := n4_; have GE274 := n6_; have NB273_274 := n7_; have NB274_273 := n8_; clear n0_ n1_ n2_ n3_ n4_ n5_ n6_ n7_ n8_; clear hb hbox hg))
 go_loopg [4, 5] k (fun kq v4 v5 w' => ∃ (x4_1 : List Bool) (x5_1 : Int), v5 = .int .i64 x5_1 ∧ Aside0 (armadaref01_Flush.l0 kq x4_1 x5_1 l0_0 l0_1 = some (r1, r2, r3)) ∧ Aside0 (kq ≤ k) ∧ Aside0 (Kd.R Kd.bool 4 w' w.heap.size (fun k_ => (w.heap.size ≤ k_)) v4 x4_1) ∧ Aside0 (Kd.V Kd.string 9 w' w.heap.size (fun k_ => ((P0_0_ k_ ∨ P0_1_ k_) ∨ w.heap.size ≤ k_) ∧ some k_ ≠ (v4 : Value).ownBlock ∧ k_ ≠ gb273 ∧ k_ ≠ gb274) (.slice A0_0 l0_0.length c0_0) l0_0) ∧ Aside0 (Kd.V k29 29 w' w.heap.size (fun k_ => ((P0_0_ k_ ∨ P0_1_ k_) ∨ w.heap.size ≤ k_) ∧ some k_ ≠ (v4 : Value).ownBlock ∧ k_ ≠ gb273 ∧ k_ ≠ gb274) (.slice A0_1 l0_1.length c0_1) l0_1) ∧ Aside0 (w'.heap[gb273]? = some (.cells #[(.slice A0_0 l0_0.length c0_0), (.slice A0_1 l0_1.length c0_1)] 25 (0, 0))) ∧ Aside0 (w'.heap[gb274]? = some (.cells #[(.slice none 0 0), (.slice none 0 0)] 25 (0, 0))) ∧ Aside0 (Below w.heap.size w w'))
 case atStart => exact ⟨(([] : List Bool)), (0), eY, H', ⟨Nat.le_refl _⟩, ⟨by first | exact Kd.R_nil _ _ _ _ _ | exact Kd.N_nil _ _ _ _ _ | exact Kd.V_nil _ _ _ _ _ | exact Kd.Q_nil _ _ _ _ _ | exact Kd.S_nil _ _ _ _ _⟩, ⟨by (with_reducible repeat (first | apply Kd.V_alloc | apply Kd.V_drewN | apply Kd.V_drew)); exact Kd.V_mono HO0_0.out (fun _ hk => ⟨hk.1.1, ⟨(by simp [Value.ownBlock]), ⟨hk.1.2, hk.2⟩⟩⟩)⟩, ⟨by (with_reducible repeat (first | apply Kd.V_alloc | apply Kd.V_drewN | apply Kd.V_drew)); exact Kd.V_mono HO0_1.out (fun _ hk => ⟨hk.1.1, ⟨(by simp [Value.ownBlock]), ⟨hk.1.2, hk.2⟩⟩⟩)⟩, ⟨qB BK273⟩, ⟨qB BK274⟩, ⟨qH⟩⟩
 case round =>
  clear H'
  (try clear p2)
  obtain ⟨x4_1, x5_1, rfl, HA, HK1, HO_4, HO_274000, HO_274001, BK273, BK274, HB⟩ := hrel
  cases gk with
  | zero => exact absurd HA.out (by simp [armadaref01_Flush.l0])
  | succ k1 =>
   have H := HA.out
   clear HA
   simp only [armadaref01_Flush.l0] at H
   by_cases c4 : x5_1 < (l0_1.length : Int)
   ·rw [if_pos c4] at H
    have c4b0 : decide (x5_1 < (l0_1.length : Int)) = true := decide_eq_true c4
    clear c4
    by_cases c5 : x4_1.length < 140737488355328
    ·rw [if_pos c5] at H
     have LMc5 := Aside0.mk c5
     clear c5
     obtain ⟨y275, hy275⟩ : ∃ y_ : List Bool, y_ = (x4_1 ++ [true]) := ⟨_, rfl⟩
     replace H : (armadaref01_Flush.l0 k1 y275 (wrap64 (x5_1 + 1)) l0_0 l0_1) = some (r1, r2, r3) := by first | (rw [hy275]; with_reducible exact H) | (have H2_ := (Option.bind_some _ _).symm.trans H; rw [hy275]; with_reducible exact H2_) | (have H2_ := (Option.bind_some _ _).symm.trans H; with_reducible exact H2_) | with_reducible exact H | (rw [hy275]; exact H) | exact H
     have Ny275 := Aside0.mk hy275
     clear hy275
     have H' := Aside0.mk H
     clear H
     obtain ⟨hnb6, hnc6⟩ := nn_ NB273_274
     obtain ⟨hcz7_0, hcz7_1, hfz7_0, hfz7_1⟩ := e2_ BK273
     go_wp2_with (first | ((with_reducible refine gate_builtin (b := .append) (xs := #[.tmp 13, .tmp 14]) rfl ?_); at_builtin; refine Kd.R_append Kd.bool (w0 := w) w.heap.size rfl (.tmp 13) (.tmp 14) 63 4 (.bool false) 1 rfl Try.underlying63 info4 rfl (by decide) (by omega) u4 x4_1 true [.bool true] (fun k_ => (w.heap.size ≤ k_)) (fun _ => False) rfl rfl ?aP (fun _ hk => hk.elim) ?aF ?aO ?aB ?aS ?aL ?_; (case aP => exact rfl); (case aB => exact qH); (case aF => exact (fun k_ hk => (Nat.le_trans (below_size qH) hk))); (case aO => exact (qR HO_4.out)); (case aS => exact (below_size qH)); (case aL => have := LMc5.out; omega); intro v276 w8 ho hb hg hat; rw [← Ny275.out] at ho; have n0_ := Aside0.mk (Kd.V_afterv (ok := (fun k_ => ((P0_0_ k_ ∨ P0_1_ k_) ∨ w.heap.size ≤ k_) ∧ k_ ≠ gb273 ∧ k_ ≠ gb274)) (qV (Kd.V_mono HO_274000.out (fun _ hk => ⟨⟨hk.1, ⟨hk.2.2.1, hk.2.2.2⟩⟩, hk.2.1⟩))) hg hat); have n1_ := Aside0.mk (Kd.V_afterv (ok := (fun k_ => ((P0_0_ k_ ∨ P0_1_ k_) ∨ w.heap.size ≤ k_) ∧ k_ ≠ gb273 ∧ k_ ≠ gb274)) (qV (Kd.V_mono HO_274001.out (fun _ hk => ⟨⟨hk.1, ⟨hk.2.2.1, hk.2.2.2⟩⟩, hk.2.1⟩))) hg hat); have n2_ := Aside0.mk (blk_grown (g := gb273) (o := .cells #[.slice A0_0 l0_0.length c0_0, .slice A0_1 l0_1.length c0_1] 25 (0, 0)) (qB BK273) hg (Kd.R_ne HO_4.out BK273.out (by decide))); have n3_ := Aside0.mk (blk_grown (g := gb274) (o := .cells #[.slice none 0 0, .slice none 0 0] 25 (0, 0)) (qB BK274) hg (Kd.R_ne HO_4.out BK274.out (by decide))); have n4_ := Aside0.mk (hb); have n5_ := Aside0.mk (ho); clear HO_274000; clear HO_274001; clear BK273; clear BK274; clear HB; clear HO_4; have HO_274000 := n0_; have HO_274001 := n1_; have BK273 := n2_; have BK274 := n3_; have HB := n4_; have HO277 := n5_; clear n0_ n1_ n2_ n3_ n4_ n5_; clear ho hb hg hat))
     go_roundg k1
     case measure => have := HK1.out; omega
     case rel => exact ⟨(y275), (wrap64 (x5_1 + 1)), eY, H', ⟨by have := HK1.out; omega⟩, ⟨qR HO277.out⟩, ⟨by (with_reducible repeat (first | apply Kd.V_alloc | apply Kd.V_drewN | apply Kd.V_drew)); exact Kd.V_mono HO_274000.out (fun _ hk => ⟨hk.1.1, ⟨hk.2, ⟨hk.1.2.1, hk.1.2.2⟩⟩⟩)⟩, ⟨by (with_reducible repeat (first | apply Kd.V_alloc | apply Kd.V_drewN | apply Kd.V_drew)); exact Kd.V_mono HO_274001.out (fun _ hk => ⟨hk.1.1, ⟨hk.2, ⟨hk.1.2.1, hk.1.2.2⟩⟩⟩)⟩, ⟨qB BK273⟩, ⟨qB BK274⟩, ⟨qH⟩⟩
    ·rw [if_neg c5] at H
     exact absurd H (by simp)
   ·rw [if_neg c4] at H
    have c4b0 : decide (x5_1 < (l0_1.length : Int)) = false := decide_eq_false c4
    clear c4
    replace H := Option.bind_eq_some_iff.mp H
    obtain ⟨⟨t278, t281, t284⟩, A90, H⟩ := H
    try dsimp only at H
    have A9 := Aside0.mk A90
    clear A90
    simp only [Option.some.injEq, Prod.mk.injEq] at H
    obtain ⟨rfl, rfl, rfl⟩ := H
    obtain ⟨hnb10, hnc10⟩ := nn_ NB273_274
    obtain ⟨hcz11_0, hcz11_1, hfz11_0, hfz11_1⟩ := e2_ BK273
    obtain ⟨Ao12, co12, eo12⟩ := Kd.R_slice HO_4.out
    subst eo12
    go_wp2_with (first | ((with_reducible refine gate_callee (f := 27) rfl ?_); refine gL (some 18) Try.func27 #[.agg #[.slice A0_0 l0_0.length c0_0, .slice A0_1 l0_1.length c0_1], .slice Ao12 x4_1.length co12] ?_; (with_reducible refine (armadaref01_Crash.calls k1 (fun k_ => (((P0_0_ k_ ∨ P0_1_ k_) ∨ w.heap.size ≤ k_) ∧ (some k_ ≠ (.slice Ao12 x4_1.length co12 : Value).ownBlock ∧ (k_ ≠ gb273 ∧ k_ ≠ gb274)))) _ _ l0_0 (fun k_ => (((P0_0_ k_ ∨ P0_1_ k_) ∨ w.heap.size ≤ k_) ∧ (some k_ ≠ (.slice Ao12 x4_1.length co12 : Value).ownBlock ∧ (k_ ≠ gb273 ∧ k_ ≠ gb274)))) _ _ l0_1 _ _ x4_1 t278 t281 t284 _ ?side1 ?side2 ?side3 ?side4 A9.out).mono ?_); (case side1 => exact HO_274000.out); (case side2 => exact HO_274001.out); (case side3 => exact qK (Kd.R_reads' HO_4.out).2.2); (case side4 => exact (Kd.R_reads' HO_4.out).2.1); rintro e w13 ⟨v279, v282, rfl, ho0, ho1, hb⟩; refine ⟨_, rfl, ?_⟩; have n0_ := Aside0.mk (Kd.R_below (qR HO_4.out) hb); have n1_ := Aside0.mk (Kd.V_below (qV HO_274000.out) hb); have n2_ := Aside0.mk (Kd.V_below (qV HO_274001.out) hb); have n3_ := Aside0.mk (Kd.V_lower (Kd.V_mono (ok' := fun k_ => ((P0_0_ k_ ∨ P0_1_ k_) ∨ w.heap.size ≤ k_) ∧ some k_ ≠ (.slice Ao12 x4_1.length co12 : Value).ownBlock ∧ k_ ≠ gb273 ∧ k_ ≠ gb274) ho0 (fun k_ hk_ => ⟨Or.elim hk_ (fun hs_ => Or.elim hs_ (fun hs_ => hs_.1) (fun hs_ => hs_.1)) (fun hn_ => (.inr (Nat.le_trans (below_size qH) hn_))), Or.elim hk_ (fun hs_ => Or.elim hs_ (fun hs_ => hs_.2.1) (fun hs_ => hs_.2.1)) (fun hn_ => (Kd.fresh' (Kd.R_lt (qR HO_4.out)) k_ hn_)), Or.elim hk_ (fun hs_ => Or.elim hs_ (fun hs_ => hs_.2.2.1) (fun hs_ => hs_.2.2.1)) (fun hn_ => (Kd.freshB (g := gb273) (o := .cells #[.slice A0_0 l0_0.length c0_0, .slice A0_1 l0_1.length c0_1] 25 (0, 0)) (qB BK273) k_ hn_)), Or.elim hk_ (fun hs_ => Or.elim hs_ (fun hs_ => hs_.2.2.2) (fun hs_ => hs_.2.2.2)) (fun hn_ => (Kd.freshB (g := gb274) (o := .cells #[.slice none 0 0, .slice none 0 0] 25 (0, 0)) (qB BK274) k_ hn_))⟩)) (below_size qH)); have n4_ := Aside0.mk (Kd.V_lower (Kd.V_mono (ok' := fun k_ => ((P0_0_ k_ ∨ P0_1_ k_) ∨ w.heap.size ≤ k_) ∧ some k_ ≠ (.slice Ao12 x4_1.length co12 : Value).ownBlock ∧ k_ ≠ gb273 ∧ k_ ≠ gb274) ho1 (fun k_ hk_ => ⟨Or.elim hk_ (fun hs_ => Or.elim hs_ (fun hs_ => hs_.1) (fun hs_ => hs_.1)) (fun hn_ => (.inr (Nat.le_trans (below_size qH) hn_))), Or.elim hk_ (fun hs_ => Or.elim hs_ (fun hs_ => hs_.2.1) (fun hs_ => hs_.2.1)) (fun hn_ => (Kd.fresh' (Kd.R_lt (qR HO_4.out)) k_ hn_)), Or.elim hk_ (fun hs_ => Or.elim hs_ (fun hs_ => hs_.2.2.1) (fun hs_ => hs_.2.2.1)) (fun hn_ => (Kd.freshB (g := gb273) (o := .cells #[.slice A0_0 l0_0.length c0_0, .slice A0_1 l0_1.length c0_1] 25 (0, 0)) (qB BK273) k_ hn_)), Or.elim hk_ (fun hs_ => Or.elim hs_ (fun hs_ => hs_.2.2.2) (fun hs_ => hs_.2.2.2)) (fun hn_ => (Kd.freshB (g := gb274) (o := .cells #[.slice none 0 0, .slice none 0 0] 25 (0, 0)) (qB BK274) k_ hn_))⟩)) (below_size qH)); have n5_ := wB BK273 hb; have n6_ := wB BK274 hb; have n7_ := wH hb; clear HO_4; clear HO_274000; clear HO_274001; clear BK273; clear BK274; clear HB; have HO280 := n3_; have HO283 := n4_; have BK273 := n5_; have BK274 := n6_; have HB := n7_; clear n0_ n1_ n2_ n3_ n4_ n5_ n6_ n7_; (try clear hb); (try clear hb2); (try clear hk); (try clear hi); (try clear ho0); (try clear ho1); obtain ⟨Ao14, co14, eo14⟩ := Kd.V_slice HO280.out; subst eo14; obtain ⟨hcz15_0, hcz15_1, hfz15_0, hfz15_1⟩ := e2_ BK274; obtain ⟨Ao16, co16, eo16⟩ := Kd.V_slice HO283.out; subst eo16))
    refine bodyPost_ret (results_ct rfl _ _ gb274 25 #[.slice Ao14 t278.length co14, .slice Ao16 t281.length co16] (0, 0) _ rfl (by (with_reducible repeat (first | apply xN_ | apply xD_ | apply xA_)); refine blk_put (cs := #[.slice Ao14 t278.length co14, .slice none 0 0]) ?_ 1 _ rfl; refine blk_put (cs := #[.slice none 0 0, .slice none 0 0]) ?_ 0 _ rfl; (with_reducible repeat (first | apply xN_ | apply xD_ | apply xA_)); exact BK274.out) Try.underlying25 rfl (by kernel_rfl)) rfl ?_
    exact ⟨_, _, eX, by (with_reducible repeat (first | apply Kd.V_alloc | apply Kd.V_drewN | apply Kd.V_drew)); exact Kd.V_mono (vG2 (g := gb274) HO280.out (fun _ hk => hk.2.2.2)) (fun _ hk => hk.1.1), by (with_reducible repeat (first | apply Kd.V_alloc | apply Kd.V_drewN | apply Kd.V_drew)); exact Kd.V_mono (vG2 (g := gb274) HO283.out (fun _ hk => hk.2.2.2)) (fun _ hk => hk.1.1), qH⟩
def armadaref01_Put.j0 : Nat → Int → ByteArray → Bool → List ByteArray → List (S29) → Option (List ByteArray × (List (S29)) × Int)
 | 0, _, _, _, _, _ => none
 | k + 1, x1, x2, x22, x286000, x286001 => if x22 = true then (some (x286000, x286001, 1)) else (if (x2.size : Int) > 32 then (some (x286000, x286001, 2)) else ((some (([] : List (S29)) : List (S29))).bind fun y288 => (if y288.length + x286001.length < 5864062014805 then ((some (y288 ++ x286001 : List (S29))).bind fun y291 => ((armadaref01_fill.f k x2).bind fun t294 => (if y291.length < 5864062014805 then (some (x286000, (y291 ++ [(⟨x1, t294⟩ : S29)]), 0)) else (none)))) else (none))))
def armadaref01_Put.f (k : Nat) (l0_0 : List ByteArray) (l0_1 : List (S29)) (a1 : Int) (a2 : ByteArray) : Option (List ByteArray × (List (S29)) × Int) := (armadaref01_May.f k l0_0 l0_1).bind fun t287 => (if t287 = true then (if a1 < 0 then (armadaref01_Put.j0 k a1 a2 true l0_0 l0_1) else (armadaref01_Put.j0 k a1 a2 (decide (a1 ≥ (l0_0.length : Int))) l0_0 l0_1)) else (armadaref01_Put.j0 k a1 a2 true l0_0 l0_1))
theorem armadaref01_Put.mono_l : ∀ k, (∀ y0 y1 y2 y3 y4, LeO (armadaref01_Put.j0 k y0 y1 y2 y3 y4) (armadaref01_Put.j0 (k + 1) y0 y1 y2 y3 y4))
 | 0 => fun _ _ _ _ _ r h => by simp [armadaref01_Put.j0] at h
 | k + 1 => by
  have ih0 := armadaref01_Put.mono_l k
  ·intro y0 y1 y2 y3 y4
   unfold armadaref01_Put.j0
   repeat' first
   | (with_reducible exact ih0 _ _ _ _ _)
   | (with_reducible exact armadaref01_May.mono _ _ _)
   | (with_reducible exact armadaref01_fill.mono _ _)
   | (with_reducible exact LeO.refl _)
   | (with_reducible exact LeO.none _)
   | (with_reducible refine LeO.ite ?_ ?_)
   | (with_reducible refine LeO.bind ?_ (fun _ => ?_))
   | exact ih0 _ _ _ _ _
   | exact armadaref01_May.mono _ _ _
   | exact armadaref01_fill.mono _ _
   | exact LeO.none _
   | refine LeO.ite ?_ ?_
   | refine LeO.bind ?_ (fun _ => ?_)
theorem armadaref01_Put.mono : ∀ a0 a1 a2 a3 k, LeO (armadaref01_Put.f k a0 a1 a2 a3) (armadaref01_Put.f (k + 1) a0 a1 a2 a3) := by
 intro a0 a1 a2 a3 k
 have ih0 := armadaref01_Put.mono_l k
 unfold armadaref01_Put.f
 repeat' first
   | (with_reducible exact ih0 _ _ _ _ _)
   | (with_reducible exact armadaref01_May.mono _ _ _)
   | (with_reducible exact armadaref01_fill.mono _ _)
   | (with_reducible exact LeO.refl _)
   | (with_reducible exact LeO.none _)
   | (with_reducible refine LeO.ite ?_ ?_)
   | (with_reducible refine LeO.bind ?_ (fun _ => ?_))
   | exact ih0 _ _ _ _ _
   | exact armadaref01_May.mono _ _ _
   | exact armadaref01_fill.mono _ _
   | exact LeO.none _
   | refine LeO.ite ?_ ?_
   | refine LeO.bind ?_ (fun _ => ?_)
set_option maxHeartbeats 8000000 in
set_option maxRecDepth 100000 in
theorem armadaref01_Put.calls (k : Nat) (P0_0_ : Nat → Prop) (A0_0 : Option Addr) (c0_0 : Nat) (l0_0 : List ByteArray) (P0_1_ : Nat → Prop) (A0_1 : Option Addr) (c0_1 : Nat) (l0_1 : List (S29)) (a1 : Int) (a2 : ByteArray) (r1 : List ByteArray) (r2 : List (S29)) (r3 : Int) (w : World) (hs0_0 : Kd.V Kd.string 9 w w.heap.size (fun k_ => P0_0_ k_) (.slice A0_0 l0_0.length c0_0) l0_0) (hs0_1 : Kd.V k29 29 w w.heap.size (fun k_ => P0_1_ k_) (.slice A0_1 l0_1.length c0_1) l0_1) (h : armadaref01_Put.f k l0_0 l0_1 a1 a2 = some (r1, r2, r3)) :
  Calls Try.prog 50 #[.agg #[.slice A0_0 l0_0.length c0_0, .slice A0_1 l0_1.length c0_1], .int .i64 a1, .string a2] w fun e w' => ∃ v0_ v1_ : Value, e = .returned (.tuple #[.agg #[v0_, v1_], .int .i64 r3]) ∧ Kd.V Kd.string 9 w' w.heap.size (fun k_ => ((P0_0_ k_ ∨ P0_1_ k_) ∨ w.heap.size ≤ k_)) v0_ r1 ∧ Kd.V k29 29 w' w.heap.size (fun k_ => ((P0_0_ k_ ∨ P0_1_ k_) ∨ w.heap.size ≤ k_)) v1_ r2 ∧ Below w.heap.size w w' := by
 have hu25 := Try.underlying25
 have hu29 := Try.underlying29
 have HO0_0 := Aside0.mk (show Kd.V Kd.string 9 w w.heap.size (fun k_ => ((P0_0_ k_ ∨ P0_1_ k_) ∨ w.heap.size ≤ k_)) (.slice A0_0 l0_0.length c0_0) l0_0 from Kd.V_mono hs0_0 (fun k_ hk => .inl (.inl hk)))
 have HO0_1 := Aside0.mk (show Kd.V k29 29 w w.heap.size (fun k_ => ((P0_0_ k_ ∨ P0_1_ k_) ∨ w.heap.size ≤ k_)) (.slice A0_1 l0_1.length c0_1) l0_1 from Kd.V_mono hs0_1 (fun k_ hk => .inl (.inr hk)))
 have HB := Aside0.mk (Below.refl w.heap.size w)
 have H := h
 unfold armadaref01_Put.f at H
 clear h
 have HC4 := Aside0.mk H
 clear H
 go_enter Try.func50, Try.ntmps50
 go_upto_region 1 with (first | ((with_reducible refine gate_dst (N := 3) rfl ?_); (try (refine gate_guard (by rfl) ?_; dsimp only)); refine bE (N := 3) (cs := #[.slice A0_0 l0_0.length c0_0, .slice A0_1 l0_1.length c0_1]) (t := 25) ?_; intro gb285 hg w5 hbox hb; have n0_ := Aside0.mk (Kd.V_below (Kd.V_elderB (qV HO0_0.out) gb285 (Nat.le_of_eq hg.symm)) hb); have n1_ := Aside0.mk (Kd.V_below (Kd.V_elderB (qV HO0_1.out) gb285 (Nat.le_of_eq hg.symm)) hb); have n2_ := wH hb; have n3_ := Aside0.mk (hbox); have n4_ := Aside0.mk ((qG hg)); have n5_ := Aside0.mk ((qG hg)); clear HO0_0; clear HO0_1; clear HB; have HO0_0 := n0_; have HO0_1 := n1_; have HB := n2_; have BK285 := n3_; have GE285 := n5_; clear n0_ n1_ n2_ n3_ n4_ n5_; clear hb hbox hg) | ((with_reducible refine gate_dst (N := 6) rfl ?_); (try (refine gate_guard (by rfl) ?_; dsimp only)); refine bE (N := 6) (cs := #[.slice none 0 0, .slice none 0 0]) (t := 25) ?_; intro gb286 hg w6 hbox hb; have n0_ := Aside0.mk (Kd.V_below (Kd.V_elderB (qV HO0_0.out) gb286 (Nat.le_of_eq hg.symm)) hb); have n1_ := Aside0.mk (Kd.V_below (Kd.V_elderB (qV HO0_1.out) gb286 (Nat.le_of_eq hg.symm)) hb); have n2_ := wB BK285 hb; have n3_ := wH hb; have n4_ := Aside0.mk (hbox); have n5_ := Aside0.mk ((qG hg)); have n6_ := Aside0.mk ((qG hg)); have n7_ := Aside0.mk ((by rw [hg]; exact Nat.ne_of_lt (blk_lt (g := gb285) (o := .cells #[.slice A0_0 l0_0.length c0_0, .slice A0_1 l0_1.length c0_1] 25 (0, 0)) (qB BK285)) : gb285 ≠ gb286)); have n8_ := Aside0.mk ((by rw [hg]; exact Nat.ne_of_gt (blk_lt (g := gb285) (o := .cells #[.slice A0_0 l0_0.length c0_0, .slice A0_1 l0_1.length c0_1] 25 (0, 0)) (qB BK285)) : gb286 ≠ gb285)); clear HO0_0; clear HO0_1; clear BK285; clear HB; have HO0_0 := n0_; have HO0_1 := n1_; have BK285 := n2_; have HB := n3_; have BK286 := n4_; have GE286 := n6_; have NB285_286 := n7_; have NB286_285 := n8_; clear n0_ n1_ n2_ n3_ n4_ n5_ n6_ n7_ n8_; clear hb hbox hg))
 (try simp only [Act.put, List.setIfInBounds_toArray, List.set_cons_zero, List.set_cons_succ])
 go_cut [22] (fun v22 wc => ∃ (kq : Nat) (x22_3 : Bool), v22 = .bool x22_3 ∧ Aside0 (armadaref01_Put.j0 kq a1 a2 x22_3 l0_0 l0_1 = some (r1, r2, r3)) ∧ Aside0 (kq ≤ k) ∧ Aside0 (Kd.V Kd.string 9 wc w.heap.size (fun k_ => ((P0_0_ k_ ∨ P0_1_ k_) ∨ w.heap.size ≤ k_) ∧ k_ ≠ gb285 ∧ k_ ≠ gb286) (.slice A0_0 l0_0.length c0_0) l0_0) ∧ Aside0 (Kd.V k29 29 wc w.heap.size (fun k_ => ((P0_0_ k_ ∨ P0_1_ k_) ∨ w.heap.size ≤ k_) ∧ k_ ≠ gb285 ∧ k_ ≠ gb286) (.slice A0_1 l0_1.length c0_1) l0_1) ∧ Aside0 (wc.heap[gb285]? = some (.cells #[(.slice A0_0 l0_0.length c0_0), (.slice A0_1 l0_1.length c0_1)] 25 (0, 0))) ∧ Aside0 (wc.heap[gb286]? = some (.cells #[(.slice none 0 0), (.slice none 0 0)] 25 (0, 0))) ∧ Aside0 (Below w.heap.size w wc))
 case first =>
  have H := HC4.out
  clear HC4
  replace H := Option.bind_eq_some_iff.mp H
  obtain ⟨t287, A70, H⟩ := H
  try dsimp only at H
  have A7 := Aside0.mk A70
  clear A70
  by_cases c8 : t287 = true
  ·subst c8
   rw [if_pos rfl] at H
   by_cases c9 : a1 < 0
   ·rw [if_pos c9] at H
    have c9b0 : decide (a1 < 0) = true := decide_eq_true c9
    clear c9
    (first | rw [c9b0] | (simp only [i64_w, i32_w]; rw [c9b0]) | skip)
    have H' := Aside0.mk H
    clear H
    obtain ⟨hnb10, hnc10⟩ := nn_ NB285_286
    obtain ⟨hcz11_0, hcz11_1, hfz11_0, hfz11_1⟩ := e2_ BK285
    go_wp2_with (first | ((with_reducible refine gate_callee (f := 25) rfl ?_); refine gL (some 10) Try.func25 #[.agg #[.slice A0_0 l0_0.length c0_0, .slice A0_1 l0_1.length c0_1]] ?_; (with_reducible refine (armadaref01_May.calls k _ _ l0_0 _ _ l0_1 true _ ?side1 ?side2 ?side3 ?side4 A7.out).mono ?_); (case side1 => exact qK (Kd.V_reads' HO0_0.out).2.2); (case side2 => exact (Kd.V_reads' HO0_0.out).2.1); (case side3 => exact qK (Kd.V_reads' HO0_1.out).2.2); (case side4 => exact (Kd.V_reads' HO0_1.out).2.1); rintro e w12 ⟨rfl, hb⟩; refine ⟨_, rfl, ?_⟩; have n0_ := Aside0.mk (Kd.V_below (qV HO0_0.out) hb); have n1_ := Aside0.mk (Kd.V_below (qV HO0_1.out) hb); have n2_ := wB BK285 hb; have n3_ := wB BK286 hb; have n4_ := wH hb; clear HO0_0; clear HO0_1; clear BK285; clear BK286; clear HB; have HO0_0 := n0_; have HO0_1 := n1_; have BK285 := n2_; have BK286 := n3_; have HB := n4_; clear n0_ n1_ n2_ n3_ n4_; (try clear hb); (try clear hb2); (try clear hk); (try clear hi)))
    go_meet
    case rel => exact ⟨_, (true), eY, H', ⟨by first | omega | exact Nat.le_refl _⟩, ⟨by (with_reducible repeat (first | apply Kd.V_alloc | apply Kd.V_drewN | apply Kd.V_drew)); exact Kd.V_mono HO0_0.out (fun _ hk => ⟨hk.1.1, ⟨hk.1.2, hk.2⟩⟩)⟩, ⟨by (with_reducible repeat (first | apply Kd.V_alloc | apply Kd.V_drewN | apply Kd.V_drew)); exact Kd.V_mono HO0_1.out (fun _ hk => ⟨hk.1.1, ⟨hk.1.2, hk.2⟩⟩)⟩, ⟨qB BK285⟩, ⟨qB BK286⟩, ⟨qH⟩⟩
   ·rw [if_neg c9] at H
    have c9b0 : decide (a1 < 0) = false := decide_eq_false c9
    clear c9
    (first | rw [c9b0] | (simp only [i64_w, i32_w]; rw [c9b0]) | skip)
    have H' := Aside0.mk H
    clear H
    obtain ⟨hnb13, hnc13⟩ := nn_ NB285_286
    obtain ⟨hcz14_0, hcz14_1, hfz14_0, hfz14_1⟩ := e2_ BK285
    go_wp2_with (first | ((with_reducible refine gate_callee (f := 25) rfl ?_); refine gL (some 10) Try.func25 #[.agg #[.slice A0_0 l0_0.length c0_0, .slice A0_1 l0_1.length c0_1]] ?_; (with_reducible refine (armadaref01_May.calls k _ _ l0_0 _ _ l0_1 true _ ?side1 ?side2 ?side3 ?side4 A7.out).mono ?_); (case side1 => exact qK (Kd.V_reads' HO0_0.out).2.2); (case side2 => exact (Kd.V_reads' HO0_0.out).2.1); (case side3 => exact qK (Kd.V_reads' HO0_1.out).2.2); (case side4 => exact (Kd.V_reads' HO0_1.out).2.1); rintro e w15 ⟨rfl, hb⟩; refine ⟨_, rfl, ?_⟩; have n0_ := Aside0.mk (Kd.V_below (qV HO0_0.out) hb); have n1_ := Aside0.mk (Kd.V_below (qV HO0_1.out) hb); have n2_ := wB BK285 hb; have n3_ := wB BK286 hb; have n4_ := wH hb; clear HO0_0; clear HO0_1; clear BK285; clear BK286; clear HB; have HO0_0 := n0_; have HO0_1 := n1_; have BK285 := n2_; have BK286 := n3_; have HB := n4_; clear n0_ n1_ n2_ n3_ n4_; (try clear hb); (try clear hb2); (try clear hk); (try clear hi); obtain ⟨hcz16_0, hcz16_1, hfz16_0, hfz16_1⟩ := e2_ BK285))
    go_meet
    case rel => exact ⟨_, (decide (a1 ≥ (l0_0.length : Int))), eY, H', ⟨by first | omega | exact Nat.le_refl _⟩, ⟨by (with_reducible repeat (first | apply Kd.V_alloc | apply Kd.V_drewN | apply Kd.V_drew)); exact Kd.V_mono HO0_0.out (fun _ hk => ⟨hk.1.1, ⟨hk.1.2, hk.2⟩⟩)⟩, ⟨by (with_reducible repeat (first | apply Kd.V_alloc | apply Kd.V_drewN | apply Kd.V_drew)); exact Kd.V_mono HO0_1.out (fun _ hk => ⟨hk.1.1, ⟨hk.1.2, hk.2⟩⟩)⟩, ⟨qB BK285⟩, ⟨qB BK286⟩, ⟨qH⟩⟩
  ·replace c8 := Bool.eq_false_iff.mpr c8
   subst c8
   rw [if_neg nF_] at H
   have H' := Aside0.mk H
   clear H
   obtain ⟨hnb17, hnc17⟩ := nn_ NB285_286
   obtain ⟨hcz18_0, hcz18_1, hfz18_0, hfz18_1⟩ := e2_ BK285
   go_wp2_with (first | ((with_reducible refine gate_callee (f := 25) rfl ?_); refine gL (some 10) Try.func25 #[.agg #[.slice A0_0 l0_0.length c0_0, .slice A0_1 l0_1.length c0_1]] ?_; (with_reducible refine (armadaref01_May.calls k _ _ l0_0 _ _ l0_1 false _ ?side1 ?side2 ?side3 ?side4 A7.out).mono ?_); (case side1 => exact qK (Kd.V_reads' HO0_0.out).2.2); (case side2 => exact (Kd.V_reads' HO0_0.out).2.1); (case side3 => exact qK (Kd.V_reads' HO0_1.out).2.2); (case side4 => exact (Kd.V_reads' HO0_1.out).2.1); rintro e w19 ⟨rfl, hb⟩; refine ⟨_, rfl, ?_⟩; have n0_ := Aside0.mk (Kd.V_below (qV HO0_0.out) hb); have n1_ := Aside0.mk (Kd.V_below (qV HO0_1.out) hb); have n2_ := wB BK285 hb; have n3_ := wB BK286 hb; have n4_ := wH hb; clear HO0_0; clear HO0_1; clear BK285; clear BK286; clear HB; have HO0_0 := n0_; have HO0_1 := n1_; have BK285 := n2_; have BK286 := n3_; have HB := n4_; clear n0_ n1_ n2_ n3_ n4_; (try clear hb); (try clear hb2); (try clear hk); (try clear hi)))
   go_meet
   case rel => exact ⟨_, (true), eY, H', ⟨by first | omega | exact Nat.le_refl _⟩, ⟨by (with_reducible repeat (first | apply Kd.V_alloc | apply Kd.V_drewN | apply Kd.V_drew)); exact Kd.V_mono HO0_0.out (fun _ hk => ⟨hk.1.1, ⟨hk.1.2, hk.2⟩⟩)⟩, ⟨by (with_reducible repeat (first | apply Kd.V_alloc | apply Kd.V_drewN | apply Kd.V_drew)); exact Kd.V_mono HO0_1.out (fun _ hk => ⟨hk.1.1, ⟨hk.1.2, hk.2⟩⟩)⟩, ⟨qB BK285⟩, ⟨qB BK286⟩, ⟨qH⟩⟩
 case rest =>
  clear HC4
  (try clear p2)
  obtain ⟨kq, x22_3, rfl, HA, HJ3, HO_286000, HO_286001, BK285, BK286, HB⟩ := hcut
  cases kq with
  | zero => exact absurd HA.out (by simp [armadaref01_Put.j0])
  | succ kj3 =>
   have H := HA.out
   clear HA
   simp only [armadaref01_Put.j0] at H
   by_cases c20 : x22_3 = true
   ·subst c20
    rw [if_pos rfl] at H
    simp only [Option.some.injEq, Prod.mk.injEq] at H
    obtain ⟨rfl, rfl, rfl⟩ := H
    obtain ⟨hnb21, hnc21⟩ := nn_ NB285_286
    obtain ⟨hcz22_0, hcz22_1, hfz22_0, hfz22_1⟩ := e2_ BK285
    obtain ⟨hcz23_0, hcz23_1, hfz23_0, hfz23_1⟩ := e2_ BK286
    go_wp2
    refine bodyPost_ret (results_ct rfl _ _ gb286 25 #[.slice A0_0 l0_0.length c0_0, .slice A0_1 l0_1.length c0_1] (0, 0) _ rfl (by (with_reducible repeat (first | apply xN_ | apply xD_ | apply xA_)); refine blk_put (cs := #[.slice A0_0 l0_0.length c0_0, .slice none 0 0]) ?_ 1 _ rfl; refine blk_put (cs := #[.slice none 0 0, .slice none 0 0]) ?_ 0 _ rfl; (with_reducible repeat (first | apply xN_ | apply xD_ | apply xA_)); exact BK286.out) Try.underlying25 rfl (by kernel_rfl)) rfl ?_
    exact ⟨_, _, eX, by (with_reducible repeat (first | apply Kd.V_alloc | apply Kd.V_drewN | apply Kd.V_drew)); exact Kd.V_mono (vG2 (g := gb286) HO_286000.out (fun _ hk => hk.2.2)) (fun _ hk => hk.1.1), by (with_reducible repeat (first | apply Kd.V_alloc | apply Kd.V_drewN | apply Kd.V_drew)); exact Kd.V_mono (vG2 (g := gb286) HO_286001.out (fun _ hk => hk.2.2)) (fun _ hk => hk.1.1), qH⟩
   ·replace c20 := Bool.eq_false_iff.mpr c20
    subst c20
    rw [if_neg nF_] at H
    by_cases c24 : (a2.size : Int) > 32
    ·rw [if_pos c24] at H
     have c24b0 : decide (32 < (a2.size : Int)) = true := decide_eq_true c24
     have c24b1 : decide (32 < a2.size) = true := decide_eq_true (by omega)
     clear c24
     simp only [Option.some.injEq, Prod.mk.injEq] at H
     obtain ⟨rfl, rfl, rfl⟩ := H
     obtain ⟨hnb25, hnc25⟩ := nn_ NB285_286
     obtain ⟨hcz26_0, hcz26_1, hfz26_0, hfz26_1⟩ := e2_ BK285
     obtain ⟨hcz27_0, hcz27_1, hfz27_0, hfz27_1⟩ := e2_ BK286
     go_wp2
     refine bodyPost_ret (results_ct rfl _ _ gb286 25 #[.slice A0_0 l0_0.length c0_0, .slice A0_1 l0_1.length c0_1] (0, 0) _ rfl (by (with_reducible repeat (first | apply xN_ | apply xD_ | apply xA_)); refine blk_put (cs := #[.slice A0_0 l0_0.length c0_0, .slice none 0 0]) ?_ 1 _ rfl; refine blk_put (cs := #[.slice none 0 0, .slice none 0 0]) ?_ 0 _ rfl; (with_reducible repeat (first | apply xN_ | apply xD_ | apply xA_)); exact BK286.out) Try.underlying25 rfl (by kernel_rfl)) rfl ?_
     exact ⟨_, _, eX, by (with_reducible repeat (first | apply Kd.V_alloc | apply Kd.V_drewN | apply Kd.V_drew)); exact Kd.V_mono (vG2 (g := gb286) HO_286000.out (fun _ hk => hk.2.2)) (fun _ hk => hk.1.1), by (with_reducible repeat (first | apply Kd.V_alloc | apply Kd.V_drewN | apply Kd.V_drew)); exact Kd.V_mono (vG2 (g := gb286) HO_286001.out (fun _ hk => hk.2.2)) (fun _ hk => hk.1.1), qH⟩
    ·rw [if_neg c24] at H
     have c24b0 : decide (32 < (a2.size : Int)) = false := decide_eq_false c24
     have c24b1 : decide (32 < a2.size) = false := decide_eq_false (by omega)
     clear c24
     obtain ⟨y288, hy288⟩ : ∃ y_ : List (S29), y_ = (([] : List (S29))) := ⟨_, rfl⟩
     replace H : (if y288.length + l0_1.length < 5864062014805 then ((some (y288 ++ l0_1 : List (S29))).bind fun y291 => ((armadaref01_fill.f kj3 a2).bind fun t294 => (if y291.length < 5864062014805 then (some (l0_0, (y291 ++ [(⟨a1, t294⟩ : S29)]), 0)) else (none)))) else (none)) = some (r1, r2, r3) := by first | (rw [hy288]; with_reducible exact H) | (have H2_ := (Option.bind_some _ _).symm.trans H; rw [hy288]; with_reducible exact H2_) | (have H2_ := (Option.bind_some _ _).symm.trans H; with_reducible exact H2_) | with_reducible exact H | (rw [hy288]; exact H) | exact H
     have Ny288 := Aside0.mk hy288
     clear hy288
     by_cases c28 : y288.length + l0_1.length < 5864062014805
     ·rw [if_pos c28] at H
      have LMc28 := Aside0.mk c28
      clear c28
      obtain ⟨y291, hy291⟩ : ∃ y_ : List (S29), y_ = (y288 ++ l0_1) := ⟨_, rfl⟩
      replace H : ((armadaref01_fill.f kj3 a2).bind fun t294 => (if y291.length < 5864062014805 then (some (l0_0, (y291 ++ [(⟨a1, t294⟩ : S29)]), 0)) else (none))) = some (r1, r2, r3) := by first | (rw [hy291]; with_reducible exact H) | (have H2_ := (Option.bind_some _ _).symm.trans H; rw [hy291]; with_reducible exact H2_) | (have H2_ := (Option.bind_some _ _).symm.trans H; with_reducible exact H2_) | with_reducible exact H | (rw [hy291]; exact H) | exact H
      have Ny291 := Aside0.mk hy291
      clear hy291
      replace H := Option.bind_eq_some_iff.mp H
      obtain ⟨t294, A290, H⟩ := H
      try dsimp only at H
      have A29 := Aside0.mk A290
      clear A290
      by_cases c30 : y291.length < 5864062014805
      ·rw [if_pos c30] at H
       have LMc30 := Aside0.mk c30
       clear c30
       obtain ⟨y295, hy295⟩ : ∃ y_ : List (S29), y_ = (y291 ++ [(⟨a1, t294⟩ : S29)]) := ⟨_, rfl⟩
       replace H : (some (l0_0, y295, 0)) = some (r1, r2, r3) := by first | (rw [hy295]; with_reducible exact H) | (have H2_ := (Option.bind_some _ _).symm.trans H; rw [hy295]; with_reducible exact H2_) | (have H2_ := (Option.bind_some _ _).symm.trans H; with_reducible exact H2_) | with_reducible exact H | (rw [hy295]; exact H) | exact H
       have Ny295 := Aside0.mk hy295
       clear hy295
       simp only [Option.some.injEq, Prod.mk.injEq] at H
       obtain ⟨rfl, rfl, rfl⟩ := H
       go_wp2_with (first | ((with_reducible refine gate_dst (N := 28) rfl ?_); (try (refine gate_guard (by rfl) ?_; dsimp only)); refine Kd.R_lit k29 _ 29 ?hg (N := 28) ?hd (xs := ([] : List (S29))) (inner := []) (ok := fun _ => True) (okp := fun _ => True) ?hr ?hp (fun _ hk => hk) trivial (Below.refl _ _) (Nat.le_refl _) (by simp) ?_; (case hd => rfl); (case hg => rfl); (case hr => first | (go_simp; done) | (go_simp; rfl)); (case hp => exact (Reps.none _ _)); intro v289 w31 ho32 hb hg_ hnew_; clear hg_ hnew_; (first | rw [← Ny288.out] at ho32 | (simp only [Int.reduceToNat] at ho32; rw [← Ny288.out] at ho32)); have n0_ := Aside0.mk (Kd.V_elder' (qV HO_286000.out) (Kd.R_base ho32) hb); have n1_ := Aside0.mk (Kd.V_elder' (qV HO_286001.out) (Kd.R_base ho32) hb); have n2_ := Aside0.mk (Kd.R_lower (Kd.R_newM (M := fun k_ => (w.heap.size ≤ k_)) ho32 (below_size qH) (fun k_ h_ => h_)) (below_size qH)); have n3_ := wB BK285 hb; have n4_ := wB BK286 hb; have n5_ := wH hb; clear HO_286000; clear HO_286001; clear BK285; clear BK286; clear HB; have HO_286000 := n0_; have HO_286001 := n1_; have HO290 := n2_; have BK285 := n3_; have BK286 := n4_; have HB := n5_; clear n0_ n1_ n2_ n3_ n4_ n5_; clear hb ho32; obtain ⟨hnb33, hnc33⟩ := nn_ NB285_286; obtain ⟨hcz34_0, hcz34_1, hfz34_0, hfz34_1⟩ := e2_ BK285) | ((with_reducible refine gate_builtin (b := .append) (xs := #[.tmp 28, .tmp 30]) rfl ?_); (try (refine gate_guard (by rfl) ?_; dsimp only)); at_builtin; refine Kd.R_append_rows k29 (w0 := w) w.heap.size rfl (.tmp 28) (.tmp 30) 23 29 (.agg #[(.int .i64 0), (.string ⟨#[]⟩)]) 24 rfl Try.underlying23 info29 rfl (by decide) (by omega) v289 y288 l0_1 _ _ _ (fun k_ => (w.heap.size ≤ k_)) (fun _ => False) rfl rfl ?aO ?aR (fun _ _ h => h) (fun _ h => h.elim) ?aF ?aB ?aS ?aL ?_; (case aR => repeat (first | exact (Kd.V_reads' HO_286001.out).2.2 | (with_reducible refine Kd.C_alloc ?_ _) | (with_reducible refine Kd.C_drewN ?_ _) | (with_reducible refine Kd.C_drew ?_))); (case aB => exact qH); (case aF => exact (fun k_ hk => (Nat.le_trans (below_size qH) hk))); (case aO => exact (qR (Kd.R_mono HO290.out (fun _ hk => hk.1)))); (case aS => exact (below_size qH)); (case aL => have := LMc28.out; omega); intro v292 w35 ho hb hg hat; rw [← Ny291.out] at ho; have n0_ := Aside0.mk (Kd.V_afterv (ok := (fun k_ => ((P0_0_ k_ ∨ P0_1_ k_) ∨ w.heap.size ≤ k_) ∧ k_ ≠ gb285 ∧ k_ ≠ gb286)) (by (with_reducible repeat (first | apply Kd.V_alloc | apply Kd.V_drewN | apply Kd.V_drew)); first | exact HO_286000.out | exact Kd.V_mono HO_286000.out (fun _ hk => ⟨⟨hk.1, hk.2.2⟩, hk.2.1⟩)) hg hat); have n1_ := Aside0.mk (Kd.V_afterv (ok := (fun k_ => ((P0_0_ k_ ∨ P0_1_ k_) ∨ w.heap.size ≤ k_) ∧ k_ ≠ gb285 ∧ k_ ≠ gb286)) (by (with_reducible repeat (first | apply Kd.V_alloc | apply Kd.V_drewN | apply Kd.V_drew)); first | exact HO_286001.out | exact Kd.V_mono HO_286001.out (fun _ hk => ⟨⟨hk.1, hk.2.2⟩, hk.2.1⟩)) hg hat); have n2_ := Aside0.mk (blk_grown (g := gb285) (o := .cells #[.slice A0_0 l0_0.length c0_0, .slice A0_1 l0_1.length c0_1] 25 (0, 0)) (qB BK285) hg (Kd.R_ne HO290.out BK285.out (by decide))); have n3_ := Aside0.mk (blk_grown (g := gb286) (o := .cells #[.slice none 0 0, .slice none 0 0] 25 (0, 0)) (qB BK286) hg (Kd.R_ne HO290.out BK286.out (by decide))); have n4_ := Aside0.mk (hb); have n5_ := Aside0.mk (ho); clear HO_286000; clear HO_286001; clear BK285; clear BK286; clear HB; clear HO290; have HO_286000 := n0_; have HO_286001 := n1_; have BK285 := n2_; have BK286 := n3_; have HB := n4_; have HO293 := n5_; clear n0_ n1_ n2_ n3_ n4_ n5_; clear ho hb hg hat) | ((with_reducible refine gate_callee (f := 42) rfl ?_); refine gL (some 35) Try.func42 #[.string a2] ?_; (with_reducible refine (armadaref01_fill.calls kj3 a2 t294 _ A29.out).mono ?_); rintro e w' ⟨rfl, ⟨nd, rfl⟩⟩; refine ⟨_, rfl, ?_⟩; (try (rw [drewN_self w35]; generalize hq_ : World.drewN w35 _ = w35; have n0_ : Aside0 (Kd.R k29 29 w35 w.heap.size (fun k_ => (w.heap.size ≤ k_)) v292 y291) := ⟨by rw [← hq_]; exact (qR HO293.out)⟩; have n1_ : Aside0 (Kd.V Kd.string 9 w35 w.heap.size (fun k_ => ((P0_0_ k_ ∨ P0_1_ k_) ∨ w.heap.size ≤ k_) ∧ some k_ ≠ (v292 : Value).ownBlock ∧ k_ ≠ gb285 ∧ k_ ≠ gb286) (.slice A0_0 l0_0.length c0_0) l0_0) := ⟨by rw [← hq_]; exact (qV (Kd.V_mono HO_286000.out (fun _ hk => ⟨hk.1.1, ⟨hk.2, ⟨hk.1.2.1, hk.1.2.2⟩⟩⟩)))⟩; have n2_ : Aside0 (Kd.V k29 29 w35 w.heap.size (fun k_ => ((P0_0_ k_ ∨ P0_1_ k_) ∨ w.heap.size ≤ k_) ∧ some k_ ≠ (v292 : Value).ownBlock ∧ k_ ≠ gb285 ∧ k_ ≠ gb286) (.slice A0_1 l0_1.length c0_1) l0_1) := ⟨by rw [← hq_]; exact (qV (Kd.V_mono HO_286001.out (fun _ hk => ⟨hk.1.1, ⟨hk.2, ⟨hk.1.2.1, hk.1.2.2⟩⟩⟩)))⟩; have n3_ : Aside0 (w35.heap[gb285]? = some (.cells #[.slice A0_0 l0_0.length c0_0, .slice A0_1 l0_1.length c0_1] 25 (0, 0))) := ⟨by rw [← hq_]; exact (qB BK285)⟩; have n4_ : Aside0 (w35.heap[gb286]? = some (.cells #[.slice none 0 0, .slice none 0 0] 25 (0, 0))) := ⟨by rw [← hq_]; exact (qB BK286)⟩; have n5_ : Aside0 (Below w.heap.size w w35) := ⟨by rw [← hq_]; exact qH⟩; clear HO293 HO_286000 HO_286001 BK285 BK286 HB hq_; have HO293 := n0_; have HO_286000 := n1_; have HO_286001 := n2_; have BK285 := n3_; have BK286 := n4_; have HB := n5_; clear n0_ n1_ n2_ n3_ n4_ n5_))) | (go_at_call 42; (with_reducible refine (armadaref01_fill.calls kj3 a2 t294 _ A29.out).mono ?_); rintro e w' ⟨rfl, ⟨nd, rfl⟩⟩) | ((with_reducible refine gate_builtin (b := .append) (xs := #[.tmp 32, .tmp 37]) rfl ?_); (try (refine gate_guard (by rfl) ?_; dsimp only)); at_builtin; refine Kd.R_append k29 (w0 := w) w.heap.size rfl (.tmp 32) (.tmp 37) 23 29 (.agg #[(.int .i64 0), (.string ⟨#[]⟩)]) 24 rfl Try.underlying23 info29 rfl (by decide) (by omega) v292 y291 (⟨a1, t294⟩ : S29) [.int .i64 a1, .string t294] (fun k_ => (w.heap.size ≤ k_)) (fun _ => False) rfl rfl ?aP (fun _ hk => hk.elim) ?aF ?aO ?aB ?aS ?aL ?_; (case aP => exact k29_mkM _ _ _ (⟨a1, t294⟩ : S29)); (case aB => exact qH); (case aF => exact (fun k_ hk => (Nat.le_trans (below_size qH) hk))); (case aO => exact (qR HO293.out)); (case aS => exact (below_size qH)); (case aL => have := LMc30.out; omega); intro v296 w36 ho hb hg hat; rw [← Ny295.out] at ho; have n0_ := Aside0.mk (Kd.V_afterv (ok := (fun k_ => ((P0_0_ k_ ∨ P0_1_ k_) ∨ w.heap.size ≤ k_) ∧ k_ ≠ gb285 ∧ k_ ≠ gb286)) (by (with_reducible repeat (first | apply Kd.V_alloc | apply Kd.V_drewN | apply Kd.V_drew)); first | exact HO_286000.out | exact Kd.V_mono HO_286000.out (fun _ hk => ⟨⟨hk.1, hk.2.2⟩, hk.2.1⟩)) hg hat); have n1_ := Aside0.mk (Kd.V_afterv (ok := (fun k_ => ((P0_0_ k_ ∨ P0_1_ k_) ∨ w.heap.size ≤ k_) ∧ k_ ≠ gb285 ∧ k_ ≠ gb286)) (by (with_reducible repeat (first | apply Kd.V_alloc | apply Kd.V_drewN | apply Kd.V_drew)); first | exact HO_286001.out | exact Kd.V_mono HO_286001.out (fun _ hk => ⟨⟨hk.1, hk.2.2⟩, hk.2.1⟩)) hg hat); have n2_ := Aside0.mk (blk_grown (g := gb285) (o := .cells #[.slice A0_0 l0_0.length c0_0, .slice A0_1 l0_1.length c0_1] 25 (0, 0)) (qB BK285) hg (Kd.R_ne HO293.out BK285.out (by decide))); have n3_ := Aside0.mk (blk_grown (g := gb286) (o := .cells #[.slice none 0 0, .slice none 0 0] 25 (0, 0)) (qB BK286) hg (Kd.R_ne HO293.out BK286.out (by decide))); have n4_ := Aside0.mk (hb); have n5_ := Aside0.mk (ho); clear HO_286000; clear HO_286001; clear BK285; clear BK286; clear HB; clear HO293; have HO_286000 := n0_; have BK285 := n2_; have BK286 := n3_; have HB := n4_; have HO297 := n5_; clear n0_ n1_ n2_ n3_ n4_ n5_; clear ho hb hg hat; obtain ⟨Ao37, co37, eo37⟩ := Kd.R_slice HO297.out; subst eo37; obtain ⟨hcz38_0, hcz38_1, hfz38_0, hfz38_1⟩ := e2_ BK285; obtain ⟨hcz39_0, hcz39_1, hfz39_0, hfz39_1⟩ := e2_ BK286))
       refine bodyPost_ret (results_ct rfl _ _ gb286 25 #[.slice A0_0 l0_0.length c0_0, .slice Ao37 y295.length co37] (0, 0) _ rfl (by (with_reducible repeat (first | apply xN_ | apply xD_ | apply xA_)); refine blk_put (cs := #[.slice A0_0 l0_0.length c0_0, .slice none 0 0]) ?_ 1 _ rfl; refine blk_put (cs := #[.slice none 0 0, .slice none 0 0]) ?_ 0 _ rfl; refine xR_ ?_ NB286_285.out _; (with_reducible repeat (first | apply xN_ | apply xD_ | apply xA_)); exact BK286.out) Try.underlying25 rfl (by kernel_rfl)) rfl ?_
       exact ⟨_, _, eX, by (with_reducible repeat (first | apply Kd.V_alloc | apply Kd.V_drewN | apply Kd.V_drew)); exact Kd.V_mono (Kd.V_far (p := ⟨gb286, 1, none⟩) (Kd.V_far (p := ⟨gb286, 0, none⟩) (Kd.V_far (p := ⟨gb285, 1, none⟩) (Kd.V_mono (Kd.V_mono HO_286000.out (fun k_ hk => (⟨hk, hk.1.2.1⟩ : _ ∧ k_ ≠ gb285))) (fun k_ hk => (⟨hk, hk.1.1.2.2⟩ : _ ∧ k_ ≠ gb286))) (fun _ hk => hk.1.2) (.slice Ao37 y295.length co37)) (fun _ hk => hk.2) (.slice A0_0 l0_0.length c0_0)) (fun _ hk => hk.2) (.slice Ao37 y295.length co37)) (fun _ hk => hk.1.1.1.1), Kd.V_mono (Kd.R_V (qR (Kd.R_mono (Kd.R_far (p := ⟨gb286, 1, none⟩) (Kd.R_far (p := ⟨gb286, 0, none⟩) (Kd.R_far (p := ⟨gb285, 1, none⟩) (Kd.R_types (Kd.R_types HO297.out BK285.out (by decide)) BK286.out (by decide)) (fun _ hk => hk.1.2) (.slice Ao37 y295.length co37)) (fun _ hk => hk.2) (.slice A0_0 l0_0.length c0_0)) (fun _ hk => hk.2) (.slice Ao37 y295.length co37)) (fun _ hk => hk.1.1)))) (fun k_ hk => by first | exact ⟨(.inr (hk.1)), hk.2⟩ | exact (.inr (hk))), qH⟩
      ·rw [if_neg c30] at H
       exact absurd H (by simp)
     ·rw [if_neg c28] at H
      exact absurd H (by simp)
def armadaref03_Same.l0 : Nat → List ByteArray → List ByteArray → Int → Option (Bool)
 | 0, _, _, _ => none
 | k + 1, x0, x1, x5 => if x5 < (x0.length : Int) then (if 0 ≤ x5 then (if x5 < (x1.length : Int) then (if (rdOf ByteArray.empty x0 x5).toList = (rdOf ByteArray.empty x1 x5).toList then (armadaref03_Same.l0 k x0 x1 (wrap64 (x5 + 1))) else (some false)) else (none)) else (none)) else (some true)
def armadaref03_Same.f (k : Nat) (l0 : List ByteArray) (l1 : List ByteArray) : Option (Bool) := if (l0.length : Int) = (l1.length : Int) then (armadaref03_Same.l0 k l0 l1 0) else (some false)
theorem armadaref03_Same.mono_l : ∀ k, (∀ y0 y1 y2, LeO (armadaref03_Same.l0 k y0 y1 y2) (armadaref03_Same.l0 (k + 1) y0 y1 y2))
 | 0 => fun _ _ _ r h => by simp [armadaref03_Same.l0] at h
 | k + 1 => by
  have ih0 := armadaref03_Same.mono_l k
  ·intro y0 y1 y2
   unfold armadaref03_Same.l0
   repeat' first
   | (with_reducible exact ih0 _ _ _)
   | (with_reducible exact LeO.refl _)
   | (with_reducible exact LeO.none _)
   | (with_reducible refine LeO.ite ?_ ?_)
   | (with_reducible refine LeO.bind ?_ (fun _ => ?_))
   | exact ih0 _ _ _
   | exact LeO.none _
   | refine LeO.ite ?_ ?_
   | refine LeO.bind ?_ (fun _ => ?_)
theorem armadaref03_Same.mono : ∀ a0 a1 k, LeO (armadaref03_Same.f k a0 a1) (armadaref03_Same.f (k + 1) a0 a1) := by
 intro a0 a1 k
 have ih0 := armadaref03_Same.mono_l k
 unfold armadaref03_Same.f
 repeat' first
   | (with_reducible exact ih0 _ _ _)
   | (with_reducible exact LeO.refl _)
   | (with_reducible exact LeO.none _)
   | (with_reducible refine LeO.ite ?_ ?_)
   | (with_reducible refine LeO.bind ?_ (fun _ => ?_))
   | exact ih0 _ _ _
   | exact LeO.none _
   | refine LeO.ite ?_ ?_
   | refine LeO.bind ?_ (fun _ => ?_)
mutual
def armadaref01_Get.j0 : Nat → Int → Bool → List ByteArray → List (S29) → Option (ByteArray × Int)
 | 0, _, _, _, _ => none
 | k + 1, x1, x21, x491000, x491001 => if x21 = true then (some ((⟨#[]⟩ : ByteArray), 1)) else (if 0 ≤ x1 then (if x1 < (x491000.length : Int) then (armadaref01_Get.l0 k x1 (rdOf ByteArray.empty x491000 x1) 0 x491000 x491001) else (none)) else (none))
def armadaref01_Get.l0 : Nat → Int → ByteArray → Int → List ByteArray → List (S29) → Option (ByteArray × Int)
 | 0, _, _, _, _, _ => none
 | k + 1, x1, x6, x7, x491000, x491001 => if x7 < (x491001.length : Int) then (if 0 ≤ x7 then (if ((rd_T29 x491001 x7).f0) = x1 then (armadaref01_Get.l0 k x1 ((rd_T29 x491001 x7).f1) (wrap64 (x7 + 1)) x491000 x491001) else (armadaref01_Get.l0 k x1 x6 (wrap64 (x7 + 1)) x491000 x491001)) else (none)) else (some (x6, 0))
end
def armadaref01_Get.f (k : Nat) (l0_0 : List ByteArray) (l0_1 : List (S29)) (a1 : Int) : Option (ByteArray × Int) := (armadaref01_May.f k l0_0 l0_1).bind fun t491 => (if t491 = true then (if a1 < 0 then (armadaref01_Get.j0 k a1 true l0_0 l0_1) else (armadaref01_Get.j0 k a1 (decide (a1 ≥ (l0_0.length : Int))) l0_0 l0_1)) else (armadaref01_Get.j0 k a1 true l0_0 l0_1))
theorem armadaref01_Get.mono_l : ∀ k, (∀ y0 y1 y2 y3, LeO (armadaref01_Get.j0 k y0 y1 y2 y3) (armadaref01_Get.j0 (k + 1) y0 y1 y2 y3)) ∧ (∀ y0 y1 y2 y3 y4, LeO (armadaref01_Get.l0 k y0 y1 y2 y3 y4) (armadaref01_Get.l0 (k + 1) y0 y1 y2 y3 y4))
 | 0 => ⟨fun _ _ _ _ r h => by simp [armadaref01_Get.j0] at h, fun _ _ _ _ _ r h => by simp [armadaref01_Get.l0] at h⟩
 | k + 1 => by
  obtain ⟨ih0, ih1⟩ := armadaref01_Get.mono_l k
  refine ⟨?_, ?_⟩
  ·intro y0 y1 y2 y3
   unfold armadaref01_Get.j0
   repeat' first
   | (with_reducible exact ih0 _ _ _ _)
   | (with_reducible exact ih1 _ _ _ _ _)
   | (with_reducible exact armadaref01_May.mono _ _ _)
   | (with_reducible exact LeO.refl _)
   | (with_reducible exact LeO.none _)
   | (with_reducible refine LeO.ite ?_ ?_)
   | (with_reducible refine LeO.bind ?_ (fun _ => ?_))
   | exact ih0 _ _ _ _
   | exact ih1 _ _ _ _ _
   | exact armadaref01_May.mono _ _ _
   | exact LeO.none _
   | refine LeO.ite ?_ ?_
   | refine LeO.bind ?_ (fun _ => ?_)
  ·intro y0 y1 y2 y3 y4
   unfold armadaref01_Get.l0
   repeat' first
   | (with_reducible exact ih0 _ _ _ _)
   | (with_reducible exact ih1 _ _ _ _ _)
   | (with_reducible exact armadaref01_May.mono _ _ _)
   | (with_reducible exact LeO.refl _)
   | (with_reducible exact LeO.none _)
   | (with_reducible refine LeO.ite ?_ ?_)
   | (with_reducible refine LeO.bind ?_ (fun _ => ?_))
   | exact ih0 _ _ _ _
   | exact ih1 _ _ _ _ _
   | exact armadaref01_May.mono _ _ _
   | exact LeO.none _
   | refine LeO.ite ?_ ?_
   | refine LeO.bind ?_ (fun _ => ?_)
theorem armadaref01_Get.mono : ∀ a0 a1 a2 k, LeO (armadaref01_Get.f k a0 a1 a2) (armadaref01_Get.f (k + 1) a0 a1 a2) := by
 intro a0 a1 a2 k
 obtain ⟨ih0, ih1⟩ := armadaref01_Get.mono_l k
 unfold armadaref01_Get.f
 repeat' first
   | (with_reducible exact ih0 _ _ _ _)
   | (with_reducible exact ih1 _ _ _ _ _)
   | (with_reducible exact armadaref01_May.mono _ _ _)
   | (with_reducible exact LeO.refl _)
   | (with_reducible exact LeO.none _)
   | (with_reducible refine LeO.ite ?_ ?_)
   | (with_reducible refine LeO.bind ?_ (fun _ => ?_))
   | exact ih0 _ _ _ _
   | exact ih1 _ _ _ _ _
   | exact armadaref01_May.mono _ _ _
   | exact LeO.none _
   | refine LeO.ite ?_ ?_
   | refine LeO.bind ?_ (fun _ => ?_)
set_option maxHeartbeats 8000000 in
set_option maxRecDepth 100000 in
theorem armadaref01_Get.calls (k : Nat) (A0_0 : Option Addr) (c0_0 : Nat) (l0_0 : List ByteArray) (A0_1 : Option Addr) (c0_1 : Nat) (l0_1 : List (S29)) (a1 : Int) (r1 : ByteArray) (r2 : Int) (w : World) (hr0_0 : Kd.C Kd.string w A0_0 l0_0.length l0_0) (hc0_0 : l0_0.length ≤ c0_0) (hr0_1 : Kd.C k29 w A0_1 l0_1.length l0_1) (hc0_1 : l0_1.length ≤ c0_1) (h : armadaref01_Get.f k l0_0 l0_1 a1 = some (r1, r2)) :
  Calls Try.prog 17 #[.agg #[.slice A0_0 l0_0.length c0_0, .slice A0_1 l0_1.length c0_1], .int .i64 a1] w fun e w' => e = .returned (.tuple #[.string r1, .int .i64 r2]) ∧ Below w.heap.size w w' := by
 have hu25 := Try.underlying25
 have HR0_0 := Aside0.mk hr0_0
 have HC0_0 := Aside0.mk hc0_0
 clear hr0_0 hc0_0
 have HR0_1 := Aside0.mk hr0_1
 have HC0_1 := Aside0.mk hc0_1
 clear hr0_1 hc0_1
 have HB := Aside0.mk (Below.refl w.heap.size w)
 have H := h
 unfold armadaref01_Get.f at H
 clear h
 have HC3 := Aside0.mk H
 clear H
 go_enter Try.func17, Try.ntmps17
 go_upto_region 1 with (first | ((with_reducible refine gate_dst (N := 2) rfl ?_); (try (refine gate_guard (by rfl) ?_; dsimp only)); refine bE (N := 2) (cs := #[.slice A0_0 l0_0.length c0_0, .slice A0_1 l0_1.length c0_1]) (t := 25) ?_; intro gb490 hg w4 hbox hb; have n0_ := wH hb; have n1_ := Aside0.mk (hbox); have n2_ := Aside0.mk ((qG hg)); have n3_ := Aside0.mk ((qG hg)); clear HB; have HB := n0_; have BK490 := n1_; have GE490 := n3_; clear n0_ n1_ n2_ n3_; clear hb hbox hg))
 (try simp only [Act.put, List.setIfInBounds_toArray, List.set_cons_zero, List.set_cons_succ])
 go_cut [21] (fun v21 wc => ∃ (kq : Nat) (x21_2 : Bool), v21 = .bool x21_2 ∧ Aside0 (armadaref01_Get.j0 kq a1 x21_2 l0_0 l0_1 = some (r1, r2)) ∧ Aside0 (kq ≤ k) ∧ Aside0 (wc.heap[gb490]? = some (.cells #[(.slice A0_0 l0_0.length c0_0), (.slice A0_1 l0_1.length c0_1)] 25 (0, 0))) ∧ Aside0 (Below w.heap.size w wc))
 case first =>
  have H := HC3.out
  clear HC3
  replace H := Option.bind_eq_some_iff.mp H
  obtain ⟨t491, A50, H⟩ := H
  try dsimp only at H
  have A5 := Aside0.mk A50
  clear A50
  by_cases c6 : t491 = true
  ·subst c6
   rw [if_pos rfl] at H
   by_cases c7 : a1 < 0
   ·rw [if_pos c7] at H
    have c7b0 : decide (a1 < 0) = true := decide_eq_true c7
    clear c7
    (first | rw [c7b0] | (simp only [i64_w, i32_w]; rw [c7b0]) | skip)
    have H' := Aside0.mk H
    clear H
    obtain ⟨hcz8_0, hcz8_1, hfz8_0, hfz8_1⟩ := e2_ BK490
    go_wp2_with (first | ((with_reducible refine gate_callee (f := 25) rfl ?_); refine gL (some 9) Try.func25 #[.agg #[.slice A0_0 l0_0.length c0_0, .slice A0_1 l0_1.length c0_1]] ?_; (with_reducible refine (armadaref01_May.calls k _ _ l0_0 _ _ l0_1 true _ ?side1 ?side2 ?side3 ?side4 A5.out).mono ?_); (case side1 => exact qC HR0_0); (case side2 => exact HC0_0.out); (case side3 => exact qC HR0_1); (case side4 => exact HC0_1.out); rintro e w9 ⟨rfl, hb⟩; refine ⟨_, rfl, ?_⟩; have n0_ := wB BK490 hb; have n1_ := wH hb; clear BK490; clear HB; have BK490 := n0_; have HB := n1_; clear n0_ n1_; (try clear hb); (try clear hb2); (try clear hk); (try clear hi)))
    go_meet
    case rel => exact ⟨_, (true), eY, H', ⟨by first | omega | exact Nat.le_refl _⟩, ⟨qB BK490⟩, ⟨qH⟩⟩
   ·rw [if_neg c7] at H
    have c7b0 : decide (a1 < 0) = false := decide_eq_false c7
    clear c7
    (first | rw [c7b0] | (simp only [i64_w, i32_w]; rw [c7b0]) | skip)
    have H' := Aside0.mk H
    clear H
    obtain ⟨hcz10_0, hcz10_1, hfz10_0, hfz10_1⟩ := e2_ BK490
    go_wp2_with (first | ((with_reducible refine gate_callee (f := 25) rfl ?_); refine gL (some 9) Try.func25 #[.agg #[.slice A0_0 l0_0.length c0_0, .slice A0_1 l0_1.length c0_1]] ?_; (with_reducible refine (armadaref01_May.calls k _ _ l0_0 _ _ l0_1 true _ ?side1 ?side2 ?side3 ?side4 A5.out).mono ?_); (case side1 => exact qC HR0_0); (case side2 => exact HC0_0.out); (case side3 => exact qC HR0_1); (case side4 => exact HC0_1.out); rintro e w11 ⟨rfl, hb⟩; refine ⟨_, rfl, ?_⟩; have n0_ := wB BK490 hb; have n1_ := wH hb; clear BK490; clear HB; have BK490 := n0_; have HB := n1_; clear n0_ n1_; (try clear hb); (try clear hb2); (try clear hk); (try clear hi); obtain ⟨hcz12_0, hcz12_1, hfz12_0, hfz12_1⟩ := e2_ BK490))
    go_meet
    case rel => exact ⟨_, (decide (a1 ≥ (l0_0.length : Int))), eY, H', ⟨by first | omega | exact Nat.le_refl _⟩, ⟨qB BK490⟩, ⟨qH⟩⟩
  ·replace c6 := Bool.eq_false_iff.mpr c6
   subst c6
   rw [if_neg nF_] at H
   have H' := Aside0.mk H
   clear H
   obtain ⟨hcz13_0, hcz13_1, hfz13_0, hfz13_1⟩ := e2_ BK490
   go_wp2_with (first | ((with_reducible refine gate_callee (f := 25) rfl ?_); refine gL (some 9) Try.func25 #[.agg #[.slice A0_0 l0_0.length c0_0, .slice A0_1 l0_1.length c0_1]] ?_; (with_reducible refine (armadaref01_May.calls k _ _ l0_0 _ _ l0_1 false _ ?side1 ?side2 ?side3 ?side4 A5.out).mono ?_); (case side1 => exact qC HR0_0); (case side2 => exact HC0_0.out); (case side3 => exact qC HR0_1); (case side4 => exact HC0_1.out); rintro e w14 ⟨rfl, hb⟩; refine ⟨_, rfl, ?_⟩; have n0_ := wB BK490 hb; have n1_ := wH hb; clear BK490; clear HB; have BK490 := n0_; have HB := n1_; clear n0_ n1_; (try clear hb); (try clear hb2); (try clear hk); (try clear hi)))
   go_meet
   case rel => exact ⟨_, (true), eY, H', ⟨by first | omega | exact Nat.le_refl _⟩, ⟨qB BK490⟩, ⟨qH⟩⟩
 case rest =>
  clear HC3
  (try clear p2)
  obtain ⟨kq, x21_2, rfl, HA, HJ2, BK490, HB⟩ := hcut
  cases kq with
  | zero => exact absurd HA.out (by simp [armadaref01_Get.j0])
  | succ kj2 =>
   have H := HA.out
   clear HA
   simp only [armadaref01_Get.j0] at H
   by_cases c15 : x21_2 = true
   ·subst c15
    rw [if_pos rfl] at H
    simp only [Option.some.injEq, Prod.mk.injEq] at H
    obtain ⟨rfl, rfl⟩ := H
    go_wp2
    go_ret2
    exact ⟨eX, qH⟩
   ·replace c15 := Bool.eq_false_iff.mpr c15
    subst c15
    rw [if_neg nF_] at H
    by_cases c16 : 0 ≤ a1
    ·rw [if_pos c16] at H
     have c16b0 : decide (0 ≤ a1) = true := decide_eq_true c16
     clear c16
     by_cases c17 : a1 < (l0_0.length : Int)
     ·rw [if_pos c17] at H
      have c17b0 : decide (a1 < (l0_0.length : Int)) = true := decide_eq_true c17
      clear c17
      have H' := Aside0.mk H
      clear H
      obtain ⟨hcz18_0, hcz18_1, hfz18_0, hfz18_1⟩ := e2_ BK490
      have p492 : 0 ≤ (a1 : Int) := of_decide_eq_true aS
      have q492 : a1 < (l0_0.length : Int) := of_decide_eq_true aS
      obtain ⟨ad492, e492, hx492_0⟩ := Kd.at_string HR0_0.out a1 p492 q492
      cases e492
      replace hx492_0 := (HB.out.cell (World.block_lt_of_cell? w _ hx492_0)).trans hx492_0
      replace p492 := eq_true p492
      replace q492 := eq_true q492
      go_wp2
      go_loopg [6, 7] kj2 (fun kq v6 v7 w' => ∃ (x6_2 : ByteArray) (x7_2 : Int), v6 = .string x6_2 ∧ v7 = .int .i64 x7_2 ∧ Aside0 (armadaref01_Get.l0 kq a1 x6_2 x7_2 l0_0 l0_1 = some (r1, r2)) ∧ Aside0 (kq ≤ kj2) ∧ Aside0 (w'.heap[gb490]? = some (.cells #[(.slice (some ad492) l0_0.length c0_0), (.slice A0_1 l0_1.length c0_1)] 25 (0, 0))) ∧ Aside0 (Below w.heap.size w w'))
      case atStart => exact ⟨(rdOf ByteArray.empty l0_0 a1), (0), eY, eY, H', ⟨Nat.le_refl _⟩, ⟨qB BK490⟩, ⟨qH⟩⟩
      case round =>
       clear H'
       (try clear p2); (try clear p4); (try clear q4); (try clear c15); (try clear c16b0); (try clear c17b0); (try clear hcz18_0); (try clear hcz18_1); (try clear hfz18_0)
       (try clear hfz18_1); (try clear hx492_0); (try clear p2); (try clear p492); (try clear q492)
       obtain ⟨x6_2, x7_2, rfl, rfl, HA, HK2, BK490, HB⟩ := hrel
       cases gk with
       | zero => exact absurd HA.out (by simp [armadaref01_Get.l0])
       | succ k2 =>
        have H := HA.out
        clear HA
        simp only [armadaref01_Get.l0] at H
        by_cases c19 : x7_2 < (l0_1.length : Int)
        ·rw [if_pos c19] at H
         have c19b0 : decide (x7_2 < (l0_1.length : Int)) = true := decide_eq_true c19
         clear c19
         by_cases c20 : 0 ≤ x7_2
         ·rw [if_pos c20] at H
          have c20b0 : decide (0 ≤ x7_2) = true := decide_eq_true c20
          clear c20
          by_cases c21 : ((rd_T29 l0_1 x7_2).f0) = a1
          ·rw [if_pos c21] at H
           have c21b0 : (((rd_T29 l0_1 x7_2).f0) == a1) = true := beq_iff_eq.mpr c21
           have c21b1 : (((rd_T29 l0_1 x7_2).f0) != a1) = false := bne_eq_false_iff_eq.mpr c21
           clear c21
           have H' := Aside0.mk H
           clear H
           obtain ⟨hcz22_0, hcz22_1, hfz22_0, hfz22_1⟩ := e2_ BK490
           have p493 : 0 ≤ (x7_2 : Int) := of_decide_eq_true aS
           have q493 : x7_2 < (l0_1.length : Int) := of_decide_eq_true aS
           obtain ⟨ad493, e493, hx493_0, hx493_1⟩ := at_T29 HR0_1.out x7_2 p493 q493
           cases e493
           replace hx493_0 := (HB.out.cell (World.block_lt_of_cell? w _ hx493_0)).trans hx493_0
           replace hx493_1 := (HB.out.cell (World.block_lt_of_cell? w _ hx493_1)).trans hx493_1
           replace p493 := eq_true p493
           replace q493 := eq_true q493
           have p494 : 0 ≤ (x7_2 : Int) := of_decide_eq_true aS
           have q494 : x7_2 < (l0_1.length : Int) := of_decide_eq_true aS
           obtain ⟨ad494, e494, hx494_0, hx494_1⟩ := at_T29 HR0_1.out x7_2 p494 q494
           obtain rfl : ad493 = ad494 := (by injection e494)
           replace hx494_0 := (HB.out.cell (World.block_lt_of_cell? w _ hx494_0)).trans hx494_0
           replace hx494_1 := (HB.out.cell (World.block_lt_of_cell? w _ hx494_1)).trans hx494_1
           replace p494 := eq_true p494
           replace q494 := eq_true q494
           go_wp2
           go_roundg k2
           case measure => have := HJ2.out; have := HK2.out; omega
           case rel => exact ⟨((rd_T29 l0_1 x7_2).f1), (wrap64 (x7_2 + 1)), eY, eY, H', ⟨by have := HJ2.out; have := HK2.out; omega⟩, ⟨qB BK490⟩, ⟨qH⟩⟩
          ·rw [if_neg c21] at H
           have c21b0 : (((rd_T29 l0_1 x7_2).f0) == a1) = false := beq_eq_false_iff_ne.mpr c21
           have c21b1 : (((rd_T29 l0_1 x7_2).f0) != a1) = true := bne_iff_ne.mpr c21
           have H' := Aside0.mk H
           clear H
           obtain ⟨hcz23_0, hcz23_1, hfz23_0, hfz23_1⟩ := e2_ BK490
           have p493 : 0 ≤ (x7_2 : Int) := of_decide_eq_true aS
           have q493 : x7_2 < (l0_1.length : Int) := of_decide_eq_true aS
           obtain ⟨ad493, e493, hx493_0, hx493_1⟩ := at_T29 HR0_1.out x7_2 p493 q493
           cases e493
           replace hx493_0 := (HB.out.cell (World.block_lt_of_cell? w _ hx493_0)).trans hx493_0
           replace hx493_1 := (HB.out.cell (World.block_lt_of_cell? w _ hx493_1)).trans hx493_1
           replace p493 := eq_true p493
           replace q493 := eq_true q493
           go_wp2
           go_roundg k2
           case measure => have := HJ2.out; have := HK2.out; omega
           case rel => exact ⟨(x6_2), (wrap64 (x7_2 + 1)), eY, eY, H', ⟨by have := HJ2.out; have := HK2.out; omega⟩, ⟨qB BK490⟩, ⟨qH⟩⟩
         ·rw [if_neg c20] at H
          exact absurd H (by simp)
        ·rw [if_neg c19] at H
         have c19b0 : decide (x7_2 < (l0_1.length : Int)) = false := decide_eq_false c19
         clear c19
         simp only [Option.some.injEq, Prod.mk.injEq] at H
         obtain ⟨rfl, rfl⟩ := H
         obtain ⟨hcz24_0, hcz24_1, hfz24_0, hfz24_1⟩ := e2_ BK490
         go_wp2
         go_ret2
         exact ⟨eX, qH⟩
     ·rw [if_neg c17] at H
      exact absurd H (by simp)
    ·rw [if_neg c16] at H
     exact absurd H (by simp)
def armadaref03_number.f (a0 : ByteArray) (a1 : Int) : Option (Int) := if 0 ≤ a1 then (if a1 < (a0.size : Int) then (if 0 ≤ (wrap64 (a1 + 1)) then (if (wrap64 (a1 + 1)) < (a0.size : Int) then (if 0 ≤ (wrap64 (a1 + 2)) then (if (wrap64 (a1 + 2)) < (a0.size : Int) then (if 0 ≤ (wrap64 (a1 + 3)) then (if (wrap64 (a1 + 3)) < (a0.size : Int) then (some (wrap64 ((wrap64 ((wrap64 ((wrap64 (16777216 * (wrap64 (bt a0 a1)))) + (wrap64 (65536 * (wrap64 (bt a0 (wrap64 (a1 + 1)))))))) + (wrap64 (256 * (wrap64 (bt a0 (wrap64 (a1 + 2)))))))) + (wrap64 (bt a0 (wrap64 (a1 + 3))))))) else (none)) else (none)) else (none)) else (none)) else (none)) else (none)) else (none)) else (none)
set_option maxHeartbeats 8000000 in
set_option maxRecDepth 100000 in
theorem armadaref03_number.calls (a0 : ByteArray) (a1 : Int) (r : Int) (w : World) (h : armadaref03_number.f a0 a1 = some r) :
  Calls Try.prog 40 #[.string a0, .int .i64 a1] w fun e w' => e = .returned (.int .i64 r) ∧ Drawn0 w w' := by
 have H := h
 unfold armadaref03_number.f at H
 clear h
 by_cases c3 : 0 ≤ a1
 ·rw [if_pos c3] at H
  have c3b0 : decide (0 ≤ a1) = true := decide_eq_true c3
  clear c3
  by_cases c4 : a1 < (a0.size : Int)
  ·rw [if_pos c4] at H
   have c4b0 : decide (a1 < (a0.size : Int)) = true := decide_eq_true c4
   clear c4
   obtain ⟨ji6, hji6⟩ : ∃ j_ : Int, (wrap64 (a1 + 1)) = j_ := ⟨_, rfl⟩
   replace H : (if 0 ≤ (ji6) then (if (ji6) < (a0.size : Int) then (if 0 ≤ (wrap64 (a1 + 2)) then (if (wrap64 (a1 + 2)) < (a0.size : Int) then (if 0 ≤ (wrap64 (a1 + 3)) then (if (wrap64 (a1 + 3)) < (a0.size : Int) then (some (wrap64 ((wrap64 ((wrap64 ((wrap64 (16777216 * (wrap64 (bt a0 a1)))) + (wrap64 (65536 * (wrap64 (bt a0 (ji6))))))) + (wrap64 (256 * (wrap64 (bt a0 (wrap64 (a1 + 2)))))))) + (wrap64 (bt a0 (wrap64 (a1 + 3))))))) else (none)) else (none)) else (none)) else (none)) else (none)) else (none)) = some r := by first | (rw [hji6] at H; exact H) | (simp only [hji6] at H ⊢; exact H)
   have hji6w : (IntKind.i64.wrap (a1 + 1)) = ji6 := (i64_w _).trans hji6
   by_cases c7 : 0 ≤ (ji6)
   ·rw [if_pos c7] at H
    have c7b0 : decide (0 ≤ (ji6)) = true := decide_eq_true c7
    clear c7
    by_cases c8 : (ji6) < (a0.size : Int)
    ·rw [if_pos c8] at H
     have c8b0 : decide ((ji6) < (a0.size : Int)) = true := decide_eq_true c8
     clear c8
     obtain ⟨ji10, hji10⟩ : ∃ j_ : Int, (wrap64 (a1 + 2)) = j_ := ⟨_, rfl⟩
     replace H : (if 0 ≤ (ji10) then (if (ji10) < (a0.size : Int) then (if 0 ≤ (wrap64 (a1 + 3)) then (if (wrap64 (a1 + 3)) < (a0.size : Int) then (some (wrap64 ((wrap64 ((wrap64 ((wrap64 (16777216 * (wrap64 (bt a0 a1)))) + (wrap64 (65536 * (wrap64 (bt a0 (ji6))))))) + (wrap64 (256 * (wrap64 (bt a0 (ji10))))))) + (wrap64 (bt a0 (wrap64 (a1 + 3))))))) else (none)) else (none)) else (none)) else (none)) = some r := by first | (rw [hji10] at H; exact H) | (simp only [hji10] at H ⊢; exact H)
     have hji10w : (IntKind.i64.wrap (a1 + 2)) = ji10 := (i64_w _).trans hji10
     by_cases c11 : 0 ≤ (ji10)
     ·rw [if_pos c11] at H
      have c11b0 : decide (0 ≤ (ji10)) = true := decide_eq_true c11
      clear c11
      by_cases c12 : (ji10) < (a0.size : Int)
      ·rw [if_pos c12] at H
       have c12b0 : decide ((ji10) < (a0.size : Int)) = true := decide_eq_true c12
       clear c12
       obtain ⟨ji14, hji14⟩ : ∃ j_ : Int, (wrap64 (a1 + 3)) = j_ := ⟨_, rfl⟩
       replace H : (if 0 ≤ (ji14) then (if (ji14) < (a0.size : Int) then (some (wrap64 ((wrap64 ((wrap64 ((wrap64 (16777216 * (wrap64 (bt a0 a1)))) + (wrap64 (65536 * (wrap64 (bt a0 (ji6))))))) + (wrap64 (256 * (wrap64 (bt a0 (ji10))))))) + (wrap64 (bt a0 (ji14)))))) else (none)) else (none)) = some r := by first | (rw [hji14] at H; exact H) | (simp only [hji14] at H ⊢; exact H)
       have hji14w : (IntKind.i64.wrap (a1 + 3)) = ji14 := (i64_w _).trans hji14
       by_cases c15 : 0 ≤ (ji14)
       ·rw [if_pos c15] at H
        have c15b0 : decide (0 ≤ (ji14)) = true := decide_eq_true c15
        clear c15
        by_cases c16 : (ji14) < (a0.size : Int)
        ·rw [if_pos c16] at H
         have c16b0 : decide ((ji14) < (a0.size : Int)) = true := decide_eq_true c16
         clear c16
         obtain rfl := Option.some.inj H
         have p5 : 0 ≤ (a1 : Int) := of_decide_eq_true aS
         have q5 : a1 < (a0.size : Int) := of_decide_eq_true aS
         have hx5 := bt_at a0 a1
         replace p5 := eq_true p5
         replace q5 := eq_true q5
         have p9 : 0 ≤ ((ji6) : Int) := of_decide_eq_true aS
         have q9 : (ji6) < (a0.size : Int) := of_decide_eq_true aS
         have hx9 := bt_at a0 (ji6)
         replace p9 := eq_true p9
         replace q9 := eq_true q9
         have p13 : 0 ≤ ((ji10) : Int) := of_decide_eq_true aS
         have q13 : (ji10) < (a0.size : Int) := of_decide_eq_true aS
         have hx13 := bt_at a0 (ji10)
         replace p13 := eq_true p13
         replace q13 := eq_true q13
         have p17 : 0 ≤ ((ji14) : Int) := of_decide_eq_true aS
         have q17 : (ji14) < (a0.size : Int) := of_decide_eq_true aS
         have hx17 := bt_at a0 (ji14)
         replace p17 := eq_true p17
         replace q17 := eq_true q17
         go_enter Try.func40, Try.ntmps40
         go_wp2
         repeat (go_quiet (fail); try go_wp2)
         go_ret
         exact ⟨by first | rfl | (simp; done) | (simp only [← hji6, ← hji10, ← hji14] <;> (first | rfl | simp)) | (simp [*]; done), by repeat (first | exact Drawn0.refl _ | apply Drawn0.step)⟩
        ·rw [if_neg c16] at H
         exact absurd H (by simp)
       ·rw [if_neg c15] at H
        exact absurd H (by simp)
      ·rw [if_neg c12] at H
       exact absurd H (by simp)
     ·rw [if_neg c11] at H
      exact absurd H (by simp)
    ·rw [if_neg c8] at H
     exact absurd H (by simp)
   ·rw [if_neg c7] at H
    exact absurd H (by simp)
  ·rw [if_neg c4] at H
   exact absurd H (by simp)
 ·rw [if_neg c3] at H
  exact absurd H (by simp)
def armadaref02_Is.f (a0 : Int) : Option (Bool) := if a0 ≥ 0 then (if (wrap64 (Int.tdiv a0 65536)) ≤ 65520 then (some (decide ((Int.tmod a0 65536) ≤ 65520))) else (some false)) else (some false)
set_option maxHeartbeats 8000000 in
set_option maxRecDepth 100000 in
theorem armadaref02_Is.calls (a0 : Int) (r : Bool) (w : World) (h : armadaref02_Is.f a0 = some r) :
  Calls Try.prog 59 #[.int .i64 a0] w fun e w' => e = .returned (.bool r) ∧ Drawn0 w w' := by
 have H := h
 unfold armadaref02_Is.f at H
 clear h
 by_cases c2 : a0 ≥ 0
 ·rw [if_pos c2] at H
  have c2b0 : decide (0 ≤ a0) = true := decide_eq_true c2
  clear c2
  by_cases c3 : (wrap64 (Int.tdiv a0 65536)) ≤ 65520
  ·rw [if_pos c3] at H
   have c3b0 : decide ((wrap64 (Int.tdiv a0 65536)) ≤ 65520) = true := decide_eq_true c3
   clear c3
   obtain rfl := Option.some.inj H
   go_enter Try.func59, Try.ntmps59
   go_wp2
   go_ret
   exact ⟨by first | rfl | (simp; done) | (simp [*]; done), by repeat (first | exact Drawn0.refl _ | apply Drawn0.step)⟩
  ·rw [if_neg c3] at H
   have c3b0 : decide ((wrap64 (Int.tdiv a0 65536)) ≤ 65520) = false := decide_eq_false c3
   clear c3
   obtain rfl := Option.some.inj H
   go_enter Try.func59, Try.ntmps59
   go_wp2
   go_ret
   exact ⟨by first | rfl | (simp; done) | (simp [*]; done), by repeat (first | exact Drawn0.refl _ | apply Drawn0.step)⟩
 ·rw [if_neg c2] at H
  have c2b0 : decide (0 ≤ a0) = false := decide_eq_false c2
  clear c2
  obtain rfl := Option.some.inj H
  go_enter Try.func59, Try.ntmps59
  go_wp2
  go_ret
  exact ⟨by first | rfl | (simp; done) | (simp [*]; done), by repeat (first | exact Drawn0.refl _ | apply Drawn0.step)⟩
def armadaref03_fill.l0 : Nat → ByteArray → Option (ByteArray)
 | 0, _ => none
 | k + 1, x0 => if (x0.size : Int) < 32 then (if x0.size + 1 ≤ 9223372036854775807 then (armadaref03_fill.l0 k (x0 ++ (⟨#[0]⟩ : ByteArray))) else (none)) else (some x0)
def armadaref03_fill.f (k : Nat) (a0 : ByteArray) : Option (ByteArray) := armadaref03_fill.l0 k a0
theorem armadaref03_fill.mono_l : ∀ k, (∀ y0, LeO (armadaref03_fill.l0 k y0) (armadaref03_fill.l0 (k + 1) y0))
 | 0 => fun _ r h => by simp [armadaref03_fill.l0] at h
 | k + 1 => by
  have ih0 := armadaref03_fill.mono_l k
  ·intro y0
   unfold armadaref03_fill.l0
   repeat' first
   | (with_reducible exact ih0 _)
   | (with_reducible exact LeO.refl _)
   | (with_reducible exact LeO.none _)
   | (with_reducible refine LeO.ite ?_ ?_)
   | (with_reducible refine LeO.bind ?_ (fun _ => ?_))
   | exact ih0 _
   | exact LeO.none _
   | refine LeO.ite ?_ ?_
   | refine LeO.bind ?_ (fun _ => ?_)
theorem armadaref03_fill.mono : ∀ a0 k, LeO (armadaref03_fill.f k a0) (armadaref03_fill.f (k + 1) a0) := by
 intro a0 k
 have ih0 := armadaref03_fill.mono_l k
 unfold armadaref03_fill.f
 repeat' first
   | (with_reducible exact ih0 _)
   | (with_reducible exact LeO.refl _)
   | (with_reducible exact LeO.none _)
   | (with_reducible refine LeO.ite ?_ ?_)
   | (with_reducible refine LeO.bind ?_ (fun _ => ?_))
   | exact ih0 _
   | exact LeO.none _
   | refine LeO.ite ?_ ?_
   | refine LeO.bind ?_ (fun _ => ?_)
set_option maxHeartbeats 8000000 in
set_option maxRecDepth 100000 in
theorem armadaref03_fill.calls (k : Nat) (a0 : ByteArray) (r : ByteArray) (w : World) (h : armadaref03_fill.f k a0 = some r) :
  Calls Try.prog 60 #[.string a0] w fun e w' => e = .returned (.string r) ∧ Drawn0 w w' := by
 have H : (armadaref03_fill.l0 k a0) = some r := h
 clear h
 have H' := Aside0.mk H
 clear H
 go_enter Try.func60, Try.ntmps60
 go_wp2
 go_loopg [0] k (fun kq v0 w' => ∃ (x0_1 : ByteArray), v0 = .string x0_1 ∧ Aside0 (armadaref03_fill.l0 kq x0_1 = some r) ∧ Aside0 (kq ≤ k) ∧ Drawn0 w w')
 case atStart => exact ⟨(a0), eY, H', ⟨Nat.le_refl _⟩, by repeat (first | exact Drawn0.refl _ | apply Drawn0.step)⟩
 case round =>
  clear H'
  obtain ⟨x0_1, rfl, HA, HK1, ⟨m1, rfl⟩⟩ := hrel
  cases gk with
  | zero => exact absurd HA.out (by simp [armadaref03_fill.l0])
  | succ k1 =>
   have H := HA.out
   clear HA
   simp only [armadaref03_fill.l0] at H
   by_cases c2 : (x0_1.size : Int) < 32
   ·rw [if_pos c2] at H
    have c2b0 : decide ((x0_1.size : Int) < 32) = true := decide_eq_true c2
    have c2b1 : decide (x0_1.size < 32) = true := decide_eq_true (by omega)
    clear c2
    by_cases c3 : x0_1.size + 1 ≤ 9223372036854775807
    ·rw [if_pos c3] at H
     have c3b0 := eq_true c3
     have c3b1 : decide (x0_1.size + 1 ≤ 9223372036854775807) = true := decide_eq_true c3
     try have c3b2 : (9223372036854775807 < x0_1.size + 1) = False := eq_false (Nat.not_lt.2 c3)
     have H' := Aside0.mk H
     clear H
     go_wp2
     go_roundg k1
     case measure => have := HK1.out; omega
     case rel => exact ⟨(x0_1 ++ (⟨#[0]⟩ : ByteArray)), eY, H', ⟨by have := HK1.out; omega⟩, by repeat (first | exact Drawn0.refl _ | apply Drawn0.step)⟩
    ·rw [if_neg c3] at H
     exact absurd H (by simp)
   ·rw [if_neg c2] at H
    have c2b0 : decide ((x0_1.size : Int) < 32) = false := decide_eq_false c2
    have c2b1 : decide (x0_1.size < 32) = false := decide_eq_false (by omega)
    clear c2
    obtain rfl := Option.some.inj H
    go_wp2
    go_ret
    exact ⟨by first | rfl | (simp; done) | (simp [*]; done), by repeat (first | exact Drawn0.refl _ | apply Drawn0.step)⟩
def armadaref03_four.f (a0 : Int) : Option (ByteArray) := some (strOfNums (([(wrap64 (Int.tdiv a0 16777216)) % 256, (Int.tmod (wrap64 (Int.tdiv a0 65536)) 256) % 256, (Int.tmod (wrap64 (Int.tdiv a0 256)) 256) % 256, (Int.tmod a0 256) % 256] : List Int)))
set_option maxHeartbeats 8000000 in
set_option maxRecDepth 100000 in
theorem armadaref03_four.calls (a0 : Int) (r : ByteArray) (w : World) (h : armadaref03_four.f a0 = some r) :
  Calls Try.prog 61 #[.int .i64 a0] w fun e w' => e = .returned (.string r) ∧ Below w.heap.size w w' := by
 have HB := Aside0.mk (Below.refl w.heap.size w)
 have H : (some (strOfNums (([(wrap64 (Int.tdiv a0 16777216)) % 256, (Int.tmod (wrap64 (Int.tdiv a0 65536)) 256) % 256, (Int.tmod (wrap64 (Int.tdiv a0 256)) 256) % 256, (Int.tmod a0 256) % 256] : List Int)))) = some r := h
 clear h
 obtain ⟨y495, hy495⟩ : ∃ y_ : List Int, y_ = (([(wrap64 (Int.tdiv a0 16777216)) % 256, (Int.tmod (wrap64 (Int.tdiv a0 65536)) 256) % 256, (Int.tmod (wrap64 (Int.tdiv a0 256)) 256) % 256, (Int.tmod a0 256) % 256] : List Int)) := ⟨_, rfl⟩
 replace H : (some (strOfNums y495)) = some r := by first | (rw [hy495]; with_reducible exact H) | (have H2_ := (Option.bind_some _ _).symm.trans H; rw [hy495]; with_reducible exact H2_) | (have H2_ := (Option.bind_some _ _).symm.trans H; with_reducible exact H2_) | with_reducible exact H | (rw [hy495]; exact H) | exact H
 have Ny495 := Aside0.mk hy495
 clear hy495
 obtain rfl := Option.some.inj H
 go_enter Try.func61, Try.ntmps61
 go_wp2_with (first | ((with_reducible refine gate_dst (N := 17) rfl ?_); refine Kd.R_lit (Kd.int .u8) _ 5 ?hg (N := 17) ?hd (xs := ([(wrap64 (Int.tdiv a0 16777216)) % 256, (Int.tmod (wrap64 (Int.tdiv a0 65536)) 256) % 256, (Int.tmod (wrap64 (Int.tdiv a0 256)) 256) % 256, (Int.tmod a0 256) % 256] : List Int)) (inner := [.int .u8 ((wrap64 (Int.tdiv a0 16777216)) % 256), .int .u8 ((Int.tmod (wrap64 (Int.tdiv a0 65536)) 256) % 256), .int .u8 ((Int.tmod (wrap64 (Int.tdiv a0 256)) 256) % 256), .int .u8 ((Int.tmod a0 256) % 256)]) (ok := fun _ => True) (okp := fun _ => True) ?hr ?hp (fun _ hk => hk) trivial (Below.refl _ _) (Nat.le_refl _) (by simp) ?_; (case hd => rfl); (case hg => rfl); (case hr => first | (go_simp; done) | (go_simp; rfl)); (case hp => exact (Reps.one (show Kd.M (Kd.int .u8) _ _ _ ((wrap64 (Int.tdiv a0 16777216)) % 256) [.int .u8 ((wrap64 (Int.tdiv a0 16777216)) % 256)] from rfl) (Reps.one (show Kd.M (Kd.int .u8) _ _ _ ((Int.tmod (wrap64 (Int.tdiv a0 65536)) 256) % 256) [.int .u8 ((Int.tmod (wrap64 (Int.tdiv a0 65536)) 256) % 256)] from rfl) (Reps.one (show Kd.M (Kd.int .u8) _ _ _ ((Int.tmod (wrap64 (Int.tdiv a0 256)) 256) % 256) [.int .u8 ((Int.tmod (wrap64 (Int.tdiv a0 256)) 256) % 256)] from rfl) (Reps.one (show Kd.M (Kd.int .u8) _ _ _ ((Int.tmod a0 256) % 256) [.int .u8 ((Int.tmod a0 256) % 256)] from rfl) (Reps.none _ _)))))); intro v496 w2 ho3 hb hg_ hnew_; clear hg_ hnew_; (first | rw [← Ny495.out] at ho3 | (simp only [Int.reduceToNat] at ho3; rw [← Ny495.out] at ho3)); have n0_ := Aside0.mk (Kd.R_lower ho3 (below_size qH)); have n1_ := wH hb; clear HB; have HO497 := n0_; have HB := n1_; clear n0_ n1_; clear hb ho3; have hcv4 := own_string (P := Try.prog) Try.underlying100 Try.underlying5 Try.underlying9 (Kd.own_of_R HO497.out)))
 go_ret
 exact ⟨eX, qH⟩
def armadaref03_Count.f (a0 : Int) : Option (Int) := if a0 < 0 then (some (-1)) else (if a0 > 4096 then (some (-1)) else (some (wrap64 (Int.tdiv (wrap64 (a0 + 30)) 31))))
end Go.Proofs.Ythoddglnfdmdeaa.P
