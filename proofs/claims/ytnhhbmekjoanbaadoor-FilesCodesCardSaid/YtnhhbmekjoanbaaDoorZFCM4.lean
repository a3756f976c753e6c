/- Printed functions, merged. -/
import Derived.Test.YtnhhbmekjoanbaaDoorZFCM0
import Derived.Test.YtnhhbmekjoanbaaDoorZFCH4
import Derived.Test.YtnhhbmekjoanbaaDoorZFCH5
import Derived.Test.YtnhhbmekjoanbaaDoorZFCAl
namespace Go.Proofs.YtnhhbmekjoanbaaDoor.P
open Go.RowKit Go.Proofs.YtnhhbmekjoanbaaDoorW.PrintWords Go.Proofs.YtnhhbmekjoanbaaDoorW.PrintLast Go.Proofs.YtnhhbmekjoanbaaDoorW.PrintMore
attribute [local go_sem] max2_int min2_int max_two min_two max_three min_three max_four min_four   -- for this text's walks alone
set_option linter.unusedVariables false
set_option linter.unusedSimpArgs false
section
attribute [local go_sem high] leq_str
def files_May.l0 : Nat → ByteArray → List (S49) → Int → Int → Option (Bool)
 | 0, _, _, _, _ => none
 | k + 1, x3, x9, x10, x11 => if x11 < x10 then (if 0 ≤ x11 then (if x11 < (x9.length : Int) then ((files_Path.f ((rd_T49 x9 x11).f0)).bind fun t106 => (if t106 = true then (if (((rd_T49 x9 x11).f1).size : Int) > 4096 then (some false) else (if ((Op.bytesLess x3.toList (((rd_T49 x9 x11).f0).toList)) = true) then (files_May.l0 k ((rd_T49 x9 x11).f0) x9 x10 (wrap64 (x11 + 1))) else (some false))) else (some false))) else (none)) else (none)) else (some true)
def files_May.f (k : Nat) (l0 : List (S49)) : Option (Bool) := if (l0.length : Int) > 40 then (some false) else (files_May.l0 k (⟨#[]⟩ : ByteArray) l0 (l0.length : Int) 0)
theorem files_May.mono_l : ∀ k, (∀ y0 y1 y2 y3, LeO (files_May.l0 k y0 y1 y2 y3) (files_May.l0 (k + 1) y0 y1 y2 y3))
 | 0 => fun _ _ _ _ r h => by simp [files_May.l0] at h
 | k + 1 => by
  have ih0 := files_May.mono_l k
  ·intro y0 y1 y2 y3
   unfold files_May.l0
   repeat' first
   | (with_reducible exact ih0 _ _ _ _)
   | (with_reducible exact LeO.refl _)
   | (with_reducible exact LeO.none _)
   | (with_reducible refine LeO.ite ?_ ?_)
   | (with_reducible refine LeO.bind ?_ (fun _ => ?_))
   | exact ih0 _ _ _ _
   | exact LeO.none _
   | refine LeO.ite ?_ ?_
   | refine LeO.bind ?_ (fun _ => ?_)
theorem files_May.mono : ∀ a0 k, LeO (files_May.f k a0) (files_May.f (k + 1) a0) := by
 intro a0 k
 have ih0 := files_May.mono_l k
 unfold files_May.f
 repeat' first
   | (with_reducible exact ih0 _ _ _ _)
   | (with_reducible exact LeO.refl _)
   | (with_reducible exact LeO.none _)
   | (with_reducible refine LeO.ite ?_ ?_)
   | (with_reducible refine LeO.bind ?_ (fun _ => ?_))
   | exact ih0 _ _ _ _
   | exact LeO.none _
   | refine LeO.ite ?_ ?_
   | refine LeO.bind ?_ (fun _ => ?_)
set_option maxHeartbeats 8000000 in
set_option maxRecDepth 100000 in
theorem files_May.calls (k : Nat) (A0 : Option Addr) (c0 : Nat) (l0 : List (S49)) (r : Bool) (w : World) (hr0 : Kd.C k49 w A0 l0.length l0) (hc0 : l0.length ≤ c0) (h : files_May.f k l0 = some r) :
  Calls Tryd.prog 16 #[.slice A0 l0.length c0] w fun e w' => e = .returned (.bool r) ∧ Below w.heap.size w w' := by
 have hu49 := Tryd.underlying49
 have HR0 := Aside0.mk hr0
 have HC0 := Aside0.mk hc0
 clear hr0 hc0
 have HB := Aside0.mk (Below.refl w.heap.size w)
 have H : (if (l0.length : Int) > 40 then (some false) else (files_May.l0 k (⟨#[]⟩ : ByteArray) l0 (l0.length : Int) 0)) = some r := h
 clear h
 by_cases c2 : (l0.length : Int) > 40
 ·rw [if_pos c2] at H
  have c2b0 : decide (40 < (l0.length : Int)) = true := decide_eq_true c2
  have c2b1 : decide (40 < l0.length) = true := decide_eq_true (by omega)
  clear c2
  obtain rfl := Option.some.inj H
  go_enter Tryd.func16, Tryd.ntmps16
  go_wp2
  go_ret
  exact ⟨eX, qH⟩
 ·rw [if_neg c2] at H
  have c2b0 : decide (40 < (l0.length : Int)) = false := decide_eq_false c2
  have c2b1 : decide (40 < l0.length) = false := decide_eq_false (by omega)
  clear c2
  have H' := Aside0.mk H
  clear H
  go_enter Tryd.func16, Tryd.ntmps16
  go_wp2
  go_loopg [3, 11] k (fun kq v3 v11 w' => ∃ (x3_1 : ByteArray) (x11_1 : Int), v3 = .string x3_1 ∧ v11 = .int .i64 x11_1 ∧ Aside0 (files_May.l0 kq x3_1 l0 (l0.length : Int) x11_1 = some r) ∧ Aside0 (kq ≤ k) ∧ Aside0 (Below w.heap.size w w'))
  case atStart => exact ⟨((⟨#[]⟩ : ByteArray)), (0), eY, eY, H', ⟨Nat.le_refl _⟩, ⟨qH⟩⟩
  case round =>
   clear H'
   (try clear c2b0); (try clear c2b1); (try clear p2)
   obtain ⟨x3_1, x11_1, rfl, rfl, HA, HK1, HB⟩ := hrel
   cases gk with
   | zero => exact absurd HA.out (by simp [files_May.l0])
   | succ k1 =>
    have H := HA.out
    clear HA
    simp only [files_May.l0] at H
    by_cases c3 : x11_1 < (l0.length : Int)
    ·rw [if_pos c3] at H
     have c3b0 : decide (x11_1 < (l0.length : Int)) = true := decide_eq_true c3
     clear c3
     by_cases c4 : 0 ≤ x11_1
     ·rw [if_pos c4] at H
      have c4b0 : decide (0 ≤ x11_1) = true := decide_eq_true c4
      clear c4
      by_cases c5 : x11_1 < (l0.length : Int)
      ·rw [if_pos c5] at H
       have c5b0 : decide (x11_1 < (l0.length : Int)) = true := decide_eq_true c5
       clear c5
       replace H := Option.bind_eq_some_iff.mp H
       obtain ⟨t106, A60, H⟩ := H
       try dsimp only at H
       have A6 := Aside0.mk A60
       clear A60
       by_cases c7 : t106 = true
       ·subst c7
        rw [if_pos rfl] at H
        by_cases c8 : (((rd_T49 l0 x11_1).f1).size : Int) > 4096
        ·rw [if_pos c8] at H
         have c8b0 : decide (4096 < (((rd_T49 l0 x11_1).f1).size : Int)) = true := decide_eq_true c8
         have c8b1 : decide (4096 < ((rd_T49 l0 x11_1).f1).size) = true := decide_eq_true (by omega)
         clear c8
         obtain rfl := Option.some.inj H
         have p104 : 0 ≤ (x11_1 : Int) := of_decide_eq_true aS
         have q104 : x11_1 < (l0.length : Int) := of_decide_eq_true aS
         obtain ⟨ad104, e104, hx104_0, hx104_1⟩ := at_T49 HR0.out x11_1 p104 q104
         cases e104
         replace hx104_0 := (HB.out.cell (World.block_lt_of_cell? w _ hx104_0)).trans hx104_0
         replace hx104_1 := (HB.out.cell (World.block_lt_of_cell? w _ hx104_1)).trans hx104_1
         replace p104 := eq_true p104
         replace q104 := eq_true q104
         go_wp2_with (first | ((with_reducible refine gate_dst (N := 5) rfl ?_); (try (refine gate_guard (by rfl) ?_; dsimp only)); refine bE (N := 5) (cs := #[.string (⟨#[]⟩ : ByteArray), .string (⟨#[]⟩ : ByteArray)]) (t := 49) ?_; intro gb105 hg w9 hbox hb; have n0_ := wH hb; have n1_ := Aside0.mk (hbox); have n2_ := Aside0.mk ((qG hg)); have n3_ := Aside0.mk ((qG hg)); clear HB; have HB := n0_; have BK105 := n1_; have GE105 := n3_; clear n0_ n1_ n2_ n3_; clear hb hbox hg; obtain ⟨hcz10_0, hcz10_1, hfz10_0, hfz10_1⟩ := e2_ BK105) | ((with_reducible refine gate_callee (f := 14) rfl ?_); refine gL (some 17) Tryd.func14 #[.string ((rd_T49 l0 x11_1).f0)] ?_; (with_reducible refine (files_Path.calls ((rd_T49 l0 x11_1).f0) true _ A6.out).mono ?_); rintro e w11 ⟨rfl, hb⟩; refine ⟨_, rfl, ?_⟩; have n0_ := wP2 BK105 hb; have n1_ := wH hb; clear BK105; clear HB; have BK105 := n0_; have HB := n1_; clear n0_ n1_; (try clear hb); (try clear hb2); (try clear hk); (try clear hi); obtain ⟨hcz12_0, hcz12_1, hfz12_0, hfz12_1⟩ := e2_ BK105))
         go_ret
         exact ⟨eX, qH⟩
        ·rw [if_neg c8] at H
         have c8b0 : decide (4096 < (((rd_T49 l0 x11_1).f1).size : Int)) = false := decide_eq_false c8
         have c8b1 : decide (4096 < ((rd_T49 l0 x11_1).f1).size) = false := decide_eq_false (by omega)
         clear c8
         by_cases c13 : ((Op.bytesLess x3_1.toList (((rd_T49 l0 x11_1).f0).toList)) = true)
         ·rw [if_pos c13] at H
          have c13b0 : (Op.bytesLess x3_1.toList (((rd_T49 l0 x11_1).f0).toList)) = true := c13
          clear c13
          have H' := Aside0.mk H
          clear H
          have p104 : 0 ≤ (x11_1 : Int) := of_decide_eq_true aS
          have q104 : x11_1 < (l0.length : Int) := of_decide_eq_true aS
          obtain ⟨ad104, e104, hx104_0, hx104_1⟩ := at_T49 HR0.out x11_1 p104 q104
          cases e104
          replace hx104_0 := (HB.out.cell (World.block_lt_of_cell? w _ hx104_0)).trans hx104_0
          replace hx104_1 := (HB.out.cell (World.block_lt_of_cell? w _ hx104_1)).trans hx104_1
          replace p104 := eq_true p104
          replace q104 := eq_true q104
          go_wp2_with (first | ((with_reducible refine gate_dst (N := 5) rfl ?_); (try (refine gate_guard (by rfl) ?_; dsimp only)); refine bE (N := 5) (cs := #[.string (⟨#[]⟩ : ByteArray), .string (⟨#[]⟩ : ByteArray)]) (t := 49) ?_; intro gb105 hg w14 hbox hb; have n0_ := wH hb; have n1_ := Aside0.mk (hbox); have n2_ := Aside0.mk ((qG hg)); have n3_ := Aside0.mk ((qG hg)); clear HB; have HB := n0_; have BK105 := n1_; have GE105 := n3_; clear n0_ n1_ n2_ n3_; clear hb hbox hg; obtain ⟨hcz15_0, hcz15_1, hfz15_0, hfz15_1⟩ := e2_ BK105) | ((with_reducible refine gate_callee (f := 14) rfl ?_); refine gL (some 17) Tryd.func14 #[.string ((rd_T49 l0 x11_1).f0)] ?_; (with_reducible refine (files_Path.calls ((rd_T49 l0 x11_1).f0) true _ A6.out).mono ?_); rintro e w16 ⟨rfl, hb⟩; refine ⟨_, rfl, ?_⟩; have n0_ := wP2 BK105 hb; have n1_ := wH hb; clear BK105; clear HB; have BK105 := n0_; have HB := n1_; clear n0_ n1_; (try clear hb); (try clear hb2); (try clear hk); (try clear hi); obtain ⟨hcz17_0, hcz17_1, hfz17_0, hfz17_1⟩ := e2_ BK105))
          go_roundg k1
          case measure => have := HK1.out; omega
          case rel => exact ⟨((rd_T49 l0 x11_1).f0), (wrap64 (x11_1 + 1)), eY, eY, H', ⟨by have := HK1.out; omega⟩, ⟨qH⟩⟩
         ·rw [if_neg c13] at H
          have c13b0 : (Op.bytesLess x3_1.toList (((rd_T49 l0 x11_1).f0).toList)) = false := by simpa using c13
          clear c13
          obtain rfl := Option.some.inj H
          have p104 : 0 ≤ (x11_1 : Int) := of_decide_eq_true aS
          have q104 : x11_1 < (l0.length : Int) := of_decide_eq_true aS
          obtain ⟨ad104, e104, hx104_0, hx104_1⟩ := at_T49 HR0.out x11_1 p104 q104
          cases e104
          replace hx104_0 := (HB.out.cell (World.block_lt_of_cell? w _ hx104_0)).trans hx104_0
          replace hx104_1 := (HB.out.cell (World.block_lt_of_cell? w _ hx104_1)).trans hx104_1
          replace p104 := eq_true p104
          replace q104 := eq_true q104
          go_wp2_with (first | ((with_reducible refine gate_dst (N := 5) rfl ?_); (try (refine gate_guard (by rfl) ?_; dsimp only)); refine bE (N := 5) (cs := #[.string (⟨#[]⟩ : ByteArray), .string (⟨#[]⟩ : ByteArray)]) (t := 49) ?_; intro gb105 hg w18 hbox hb; have n0_ := wH hb; have n1_ := Aside0.mk (hbox); have n2_ := Aside0.mk ((qG hg)); have n3_ := Aside0.mk ((qG hg)); clear HB; have HB := n0_; have BK105 := n1_; have GE105 := n3_; clear n0_ n1_ n2_ n3_; clear hb hbox hg; obtain ⟨hcz19_0, hcz19_1, hfz19_0, hfz19_1⟩ := e2_ BK105) | ((with_reducible refine gate_callee (f := 14) rfl ?_); refine gL (some 17) Tryd.func14 #[.string ((rd_T49 l0 x11_1).f0)] ?_; (with_reducible refine (files_Path.calls ((rd_T49 l0 x11_1).f0) true _ A6.out).mono ?_); rintro e w20 ⟨rfl, hb⟩; refine ⟨_, rfl, ?_⟩; have n0_ := wP2 BK105 hb; have n1_ := wH hb; clear BK105; clear HB; have BK105 := n0_; have HB := n1_; clear n0_ n1_; (try clear hb); (try clear hb2); (try clear hk); (try clear hi); obtain ⟨hcz21_0, hcz21_1, hfz21_0, hfz21_1⟩ := e2_ BK105))
          go_ret
          exact ⟨eX, qH⟩
       ·replace c7 := Bool.eq_false_iff.mpr c7
        subst c7
        rw [if_neg nF_] at H
        obtain rfl := Option.some.inj H
        have p104 : 0 ≤ (x11_1 : Int) := of_decide_eq_true aS
        have q104 : x11_1 < (l0.length : Int) := of_decide_eq_true aS
        obtain ⟨ad104, e104, hx104_0, hx104_1⟩ := at_T49 HR0.out x11_1 p104 q104
        cases e104
        replace hx104_0 := (HB.out.cell (World.block_lt_of_cell? w _ hx104_0)).trans hx104_0
        replace hx104_1 := (HB.out.cell (World.block_lt_of_cell? w _ hx104_1)).trans hx104_1
        replace p104 := eq_true p104
        replace q104 := eq_true q104
        go_wp2_with (first | ((with_reducible refine gate_dst (N := 5) rfl ?_); (try (refine gate_guard (by rfl) ?_; dsimp only)); refine bE (N := 5) (cs := #[.string (⟨#[]⟩ : ByteArray), .string (⟨#[]⟩ : ByteArray)]) (t := 49) ?_; intro gb105 hg w22 hbox hb; have n0_ := wH hb; have n1_ := Aside0.mk (hbox); have n2_ := Aside0.mk ((qG hg)); have n3_ := Aside0.mk ((qG hg)); clear HB; have HB := n0_; have BK105 := n1_; have GE105 := n3_; clear n0_ n1_ n2_ n3_; clear hb hbox hg; obtain ⟨hcz23_0, hcz23_1, hfz23_0, hfz23_1⟩ := e2_ BK105) | ((with_reducible refine gate_callee (f := 14) rfl ?_); refine gL (some 17) Tryd.func14 #[.string ((rd_T49 l0 x11_1).f0)] ?_; (with_reducible refine (files_Path.calls ((rd_T49 l0 x11_1).f0) false _ A6.out).mono ?_); rintro e w24 ⟨rfl, hb⟩; refine ⟨_, rfl, ?_⟩; have n0_ := wP2 BK105 hb; have n1_ := wH hb; clear BK105; clear HB; have BK105 := n0_; have HB := n1_; clear n0_ n1_; (try clear hb); (try clear hb2); (try clear hk); (try clear hi)))
        go_ret
        exact ⟨eX, qH⟩
      ·rw [if_neg c5] at H
       exact absurd H (by simp)
     ·rw [if_neg c4] at H
      exact absurd H (by simp)
    ·rw [if_neg c3] at H
     have c3b0 : decide (x11_1 < (l0.length : Int)) = false := decide_eq_false c3
     clear c3
     obtain rfl := Option.some.inj H
     go_wp2
     go_ret
     exact ⟨eX, qH⟩
end
end Go.Proofs.YtnhhbmekjoanbaaDoor.P
