/- Printed functions, merged. -/
import Derived.Test.YthoddglnfdmdeaaZJSM0
import Derived.Test.YthoddglnfdmdeaaZJSH3
import Derived.Test.YthoddglnfdmdeaaZJSM1
import Derived.Test.YthoddglnfdmdeaaZJSM2
import Derived.Test.YthoddglnfdmdeaaZJSH1
import Derived.Test.YthoddglnfdmdeaaZJSH0
import Derived.Outline
import Derived.Sort.AtCall
import Derived.Test.YthoddglnfdmdeaaZJSAl
namespace Go.Proofs.Ythoddglnfdmdeaa.P
open Go.RowKit Go.Proofs.YthoddglnfdmdeaaW.PrintWords Go.Proofs.YthoddglnfdmdeaaW.PrintLast Go.Proofs.YthoddglnfdmdeaaW.PrintMore
attribute [local go_sem] max2_int min2_int max_two min_two max_three min_three max_four min_four   -- for this text's walks alone
set_option linter.unusedVariables false
set_option linter.unusedSimpArgs false
def disk_Put.j0 : Nat → Int → ByteArray → Bool → List ByteArray → List (S29) → Option (List ByteArray × (List (S29)) × Int)
 | 0, _, _, _, _, _ => none
 | k + 1, x1, x2, x8, x406000, x406001 => if x8 = true then (some (x406000, x406001, 1)) else (if (x2.size : Int) > 32 then (some (x406000, x406001, 2)) else (if ([] : List (S29)).length + x406001.length < 5864062014805 then ((some (([] : List (S29)) ++ x406001 : List (S29))).bind fun y409 => ((disk_filled.f x2).bind fun t412 => (if y409.length < 5864062014805 then (some (x406000, (y409 ++ [(⟨x1, t412⟩ : S29)]), 0)) else (none)))) else (none)))
def disk_Put.f (k : Nat) (l0_0 : List ByteArray) (l0_1 : List (S29)) (a1 : Int) (a2 : ByteArray) : Option (List ByteArray × (List (S29)) × Int) := (disk_May.f k l0_0 l0_1).bind fun t407 => (if t407 = true then ((disk_is.f l0_0 l0_1 a1).bind fun t408 => (disk_Put.j0 k a1 a2 (!t408) l0_0 l0_1)) else (disk_Put.j0 k a1 a2 true l0_0 l0_1))
theorem disk_Put.mono_l : ∀ k, (∀ y0 y1 y2 y3 y4, LeO (disk_Put.j0 k y0 y1 y2 y3 y4) (disk_Put.j0 (k + 1) y0 y1 y2 y3 y4))
 | 0 => fun _ _ _ _ _ r h => by simp [disk_Put.j0] at h
 | k + 1 => by
  have ih0 := disk_Put.mono_l k
  ·intro y0 y1 y2 y3 y4
   unfold disk_Put.j0
   repeat' first
   | (with_reducible exact ih0 _ _ _ _ _)
   | (with_reducible exact disk_May.mono _ _ _)
   | (with_reducible exact LeO.refl _)
   | (with_reducible exact LeO.none _)
   | (with_reducible refine LeO.ite ?_ ?_)
   | (with_reducible refine LeO.bind ?_ (fun _ => ?_))
   | exact ih0 _ _ _ _ _
   | exact disk_May.mono _ _ _
   | exact LeO.none _
   | refine LeO.ite ?_ ?_
   | refine LeO.bind ?_ (fun _ => ?_)
theorem disk_Put.mono : ∀ a0 a1 a2 a3 k, LeO (disk_Put.f k a0 a1 a2 a3) (disk_Put.f (k + 1) a0 a1 a2 a3) := by
 intro a0 a1 a2 a3 k
 have ih0 := disk_Put.mono_l k
 unfold disk_Put.f
 repeat' first
   | (with_reducible exact ih0 _ _ _ _ _)
   | (with_reducible exact disk_May.mono _ _ _)
   | (with_reducible exact LeO.refl _)
   | (with_reducible exact LeO.none _)
   | (with_reducible refine LeO.ite ?_ ?_)
   | (with_reducible refine LeO.bind ?_ (fun _ => ?_))
   | exact ih0 _ _ _ _ _
   | exact disk_May.mono _ _ _
   | exact LeO.none _
   | refine LeO.ite ?_ ?_
   | refine LeO.bind ?_ (fun _ => ?_)
set_option maxHeartbeats 8000000 in
set_option maxRecDepth 100000 in
theorem disk_Put.calls (k : Nat) (P0_0_ : Nat → Prop) (A0_0 : Option Addr) (c0_0 : Nat) (l0_0 : List ByteArray) (P0_1_ : Nat → Prop) (A0_1 : Option Addr) (c0_1 : Nat) (l0_1 : List (S29)) (a1 : Int) (a2 : ByteArray) (r1 : List ByteArray) (r2 : List (S29)) (r3 : Int) (w : World) (hs0_0 : Kd.V Kd.string 9 w w.heap.size (fun k_ => P0_0_ k_) (.slice A0_0 l0_0.length c0_0) l0_0) (hs0_1 : Kd.V k29 29 w w.heap.size (fun k_ => P0_1_ k_) (.slice A0_1 l0_1.length c0_1) l0_1) (h : disk_Put.f k l0_0 l0_1 a1 a2 = some (r1, r2, r3)) :
  Calls Try.prog 10 #[.agg #[.slice A0_0 l0_0.length c0_0, .slice A0_1 l0_1.length c0_1], .int .i64 a1, .string a2] w fun e w' => ∃ v0_ v1_ : Value, e = .returned (.tuple #[.agg #[v0_, v1_], .int .i64 r3]) ∧ Kd.V Kd.string 9 w' w.heap.size (fun k_ => ((P0_0_ k_ ∨ P0_1_ k_) ∨ w.heap.size ≤ k_)) v0_ r1 ∧ Kd.V k29 29 w' w.heap.size (fun k_ => ((P0_0_ k_ ∨ P0_1_ k_) ∨ w.heap.size ≤ k_)) v1_ r2 ∧ Below w.heap.size w w' := by
 have hu25 := Try.underlying25
 have hu29 := Try.underlying29
 have HO0_0 := Aside0.mk (show Kd.V Kd.string 9 w w.heap.size (fun k_ => ((P0_0_ k_ ∨ P0_1_ k_) ∨ w.heap.size ≤ k_)) (.slice A0_0 l0_0.length c0_0) l0_0 from Kd.V_mono hs0_0 (fun k_ hk => .inl (.inl hk)))
 have HO0_1 := Aside0.mk (show Kd.V k29 29 w w.heap.size (fun k_ => ((P0_0_ k_ ∨ P0_1_ k_) ∨ w.heap.size ≤ k_)) (.slice A0_1 l0_1.length c0_1) l0_1 from Kd.V_mono hs0_1 (fun k_ hk => .inl (.inr hk)))
 have HB := Aside0.mk (Below.refl w.heap.size w)
 have H := h
 unfold disk_Put.f at H
 clear h
 have HC4 := Aside0.mk H
 clear H
 go_enter Try.func10, Try.ntmps10
 go_upto_region 1 with (first | ((with_reducible refine gate_dst (N := 3) rfl ?_); refine bE (N := 3) (cs := #[.slice A0_0 l0_0.length c0_0, .slice A0_1 l0_1.length c0_1]) (t := 25) ?_; intro gb405 hg w5 hbox hb; have n0_ := Aside0.mk (Kd.V_below (Kd.V_elderB (qV HO0_0.out) gb405 (Nat.le_of_eq hg.symm)) hb); have n1_ := Aside0.mk (Kd.V_below (Kd.V_elderB (qV HO0_1.out) gb405 (Nat.le_of_eq hg.symm)) hb); have n2_ := wH hb; have n3_ := Aside0.mk (hbox); have n4_ := Aside0.mk ((qG hg)); have n5_ := Aside0.mk ((qG hg)); clear HO0_0; clear HO0_1; clear HB; have HO0_0 := n0_; have HO0_1 := n1_; have HB := n2_; have BK405 := n3_; have GE405 := n5_; clear n0_ n1_ n2_ n3_ n4_ n5_; clear hb hbox hg) | ((with_reducible refine gate_dst (N := 6) rfl ?_); refine bE (N := 6) (cs := #[.slice none 0 0, .slice none 0 0]) (t := 25) ?_; intro gb406 hg w6 hbox hb; have n0_ := Aside0.mk (Kd.V_below (Kd.V_elderB (qV HO0_0.out) gb406 (Nat.le_of_eq hg.symm)) hb); have n1_ := Aside0.mk (Kd.V_below (Kd.V_elderB (qV HO0_1.out) gb406 (Nat.le_of_eq hg.symm)) hb); have n2_ := wB BK405 hb; have n3_ := wH hb; have n4_ := Aside0.mk (hbox); have n5_ := Aside0.mk ((qG hg)); have n6_ := Aside0.mk ((qG hg)); have n7_ := Aside0.mk ((by rw [hg]; exact Nat.ne_of_lt (blk_lt (g := gb405) (o := .cells #[.slice A0_0 l0_0.length c0_0, .slice A0_1 l0_1.length c0_1] 25 (0, 0)) (qB BK405)) : gb405 ≠ gb406)); have n8_ := Aside0.mk ((by rw [hg]; exact Nat.ne_of_gt (blk_lt (g := gb405) (o := .cells #[.slice A0_0 l0_0.length c0_0, .slice A0_1 l0_1.length c0_1] 25 (0, 0)) (qB BK405)) : gb406 ≠ gb405)); clear HO0_0; clear HO0_1; clear BK405; clear HB; have HO0_0 := n0_; have HO0_1 := n1_; have BK405 := n2_; have HB := n3_; have BK406 := n4_; have GE406 := n6_; have NB405_406 := n7_; have NB406_405 := n8_; clear n0_ n1_ n2_ n3_ n4_ n5_ n6_ n7_ n8_; clear hb hbox hg))
 (try simp only [Act.put, List.setIfInBounds_toArray, List.set_cons_zero, List.set_cons_succ])
 go_cut [8] (fun v8 wc => ∃ (kq : Nat) (x8_3 : Bool), v8 = .bool x8_3 ∧ Aside0 (disk_Put.j0 kq a1 a2 x8_3 l0_0 l0_1 = some (r1, r2, r3)) ∧ Aside0 (kq ≤ k) ∧ Aside0 (Kd.V Kd.string 9 wc w.heap.size (fun k_ => ((P0_0_ k_ ∨ P0_1_ k_) ∨ w.heap.size ≤ k_) ∧ k_ ≠ gb405 ∧ k_ ≠ gb406) (.slice A0_0 l0_0.length c0_0) l0_0) ∧ Aside0 (Kd.V k29 29 wc w.heap.size (fun k_ => ((P0_0_ k_ ∨ P0_1_ k_) ∨ w.heap.size ≤ k_) ∧ k_ ≠ gb405 ∧ k_ ≠ gb406) (.slice A0_1 l0_1.length c0_1) l0_1) ∧ Aside0 (wc.heap[gb405]? = some (.cells #[(.slice A0_0 l0_0.length c0_0), (.slice A0_1 l0_1.length c0_1)] 25 (0, 0))) ∧ Aside0 (wc.heap[gb406]? = some (.cells #[(.slice none 0 0), (.slice none 0 0)] 25 (0, 0))) ∧ Aside0 (Below w.heap.size w wc))
 case first =>
  have H := HC4.out
  clear HC4
  replace H := Option.bind_eq_some_iff.mp H
  obtain ⟨t407, A70, H⟩ := H
  try dsimp only at H
  have A7 := Aside0.mk A70
  clear A70
  by_cases c8 : t407 = true
  ·subst c8
   rw [if_pos rfl] at H
   replace H := Option.bind_eq_some_iff.mp H
   obtain ⟨t408, A90, H⟩ := H
   try dsimp only at H
   have A9 := Aside0.mk A90
   clear A90
   have H' := Aside0.mk H
   clear H
   obtain ⟨hnb10, hnc10⟩ := nn_ NB405_406
   obtain ⟨hcz11_0, hcz11_1, hfz11_0, hfz11_1⟩ := e2_ BK405
   go_wp2_with (first | ((with_reducible refine gate_callee (f := 29) rfl ?_); refine gL (some 10) Try.func29 #[.agg #[.slice A0_0 l0_0.length c0_0, .slice A0_1 l0_1.length c0_1]] ?_; (with_reducible refine (disk_May.calls k _ _ l0_0 _ _ l0_1 true _ ?side1 ?side2 ?side3 ?side4 A7.out).mono ?_); (case side1 => exact qK (Kd.V_reads' HO0_0.out).2.2); (case side2 => exact (Kd.V_reads' HO0_0.out).2.1); (case side3 => exact qK (Kd.V_reads' HO0_1.out).2.2); (case side4 => exact (Kd.V_reads' HO0_1.out).2.1); rintro e w12 ⟨rfl, hb⟩; refine ⟨_, rfl, ?_⟩; have n0_ := Aside0.mk (Kd.V_below (qV HO0_0.out) hb); have n1_ := Aside0.mk (Kd.V_below (qV HO0_1.out) hb); have n2_ := wB BK405 hb; have n3_ := wB BK406 hb; have n4_ := wH hb; clear HO0_0; clear HO0_1; clear BK405; clear BK406; clear HB; have HO0_0 := n0_; have HO0_1 := n1_; have BK405 := n2_; have BK406 := n3_; have HB := n4_; clear n0_ n1_ n2_ n3_ n4_; (try clear hb); (try clear hb2); (try clear hk); (try clear hi); obtain ⟨hcz13_0, hcz13_1, hfz13_0, hfz13_1⟩ := e2_ BK405) | (go_at_call 30; (with_reducible refine (disk_is.calls _ _ l0_0 _ _ l0_1 a1 t408 _ ?side1 ?side2 ?side3 ?side4 A9.out).mono ?_); (case side1 => exact qK (Kd.V_reads' HO0_0.out).2.2); (case side2 => exact (Kd.V_reads' HO0_0.out).2.1); (case side3 => exact qK (Kd.V_reads' HO0_1.out).2.2); (case side4 => exact (Kd.V_reads' HO0_1.out).2.1); rintro e w14 ⟨rfl, hb⟩; have n0_ := Aside0.mk (Kd.V_below (qV HO0_0.out) hb); have n1_ := Aside0.mk (Kd.V_below (qV HO0_1.out) hb); have n2_ := wB BK405 hb; have n3_ := wB BK406 hb; have n4_ := wH hb; clear HO0_0; clear HO0_1; clear BK405; clear BK406; clear HB; have HO0_0 := n0_; have HO0_1 := n1_; have BK405 := n2_; have BK406 := n3_; have HB := n4_; clear n0_ n1_ n2_ n3_ n4_; (try clear hb); (try clear hb2); (try clear hk); (try clear hi)))
   go_meet
   case rel => exact ⟨_, (!t408), eY, H', ⟨by first | omega | exact Nat.le_refl _⟩, ⟨by (with_reducible repeat (first | apply Kd.V_alloc | apply Kd.V_drewN | apply Kd.V_drew)); exact Kd.V_mono HO0_0.out (fun _ hk => ⟨hk.1.1, ⟨hk.1.2, hk.2⟩⟩)⟩, ⟨by (with_reducible repeat (first | apply Kd.V_alloc | apply Kd.V_drewN | apply Kd.V_drew)); exact Kd.V_mono HO0_1.out (fun _ hk => ⟨hk.1.1, ⟨hk.1.2, hk.2⟩⟩)⟩, ⟨qB BK405⟩, ⟨qB BK406⟩, ⟨qH⟩⟩
  ·replace c8 := Bool.eq_false_iff.mpr c8
   subst c8
   rw [if_neg nF_] at H
   have H' := Aside0.mk H
   clear H
   obtain ⟨hnb15, hnc15⟩ := nn_ NB405_406
   obtain ⟨hcz16_0, hcz16_1, hfz16_0, hfz16_1⟩ := e2_ BK405
   go_wp2_with (first | ((with_reducible refine gate_callee (f := 29) rfl ?_); refine gL (some 10) Try.func29 #[.agg #[.slice A0_0 l0_0.length c0_0, .slice A0_1 l0_1.length c0_1]] ?_; (with_reducible refine (disk_May.calls k _ _ l0_0 _ _ l0_1 false _ ?side1 ?side2 ?side3 ?side4 A7.out).mono ?_); (case side1 => exact qK (Kd.V_reads' HO0_0.out).2.2); (case side2 => exact (Kd.V_reads' HO0_0.out).2.1); (case side3 => exact qK (Kd.V_reads' HO0_1.out).2.2); (case side4 => exact (Kd.V_reads' HO0_1.out).2.1); rintro e w17 ⟨rfl, hb⟩; refine ⟨_, rfl, ?_⟩; have n0_ := Aside0.mk (Kd.V_below (qV HO0_0.out) hb); have n1_ := Aside0.mk (Kd.V_below (qV HO0_1.out) hb); have n2_ := wB BK405 hb; have n3_ := wB BK406 hb; have n4_ := wH hb; clear HO0_0; clear HO0_1; clear BK405; clear BK406; clear HB; have HO0_0 := n0_; have HO0_1 := n1_; have BK405 := n2_; have BK406 := n3_; have HB := n4_; clear n0_ n1_ n2_ n3_ n4_; (try clear hb); (try clear hb2); (try clear hk); (try clear hi)))
   go_meet
   case rel => exact ⟨_, (true), eY, H', ⟨by first | omega | exact Nat.le_refl _⟩, ⟨by (with_reducible repeat (first | apply Kd.V_alloc | apply Kd.V_drewN | apply Kd.V_drew)); exact Kd.V_mono HO0_0.out (fun _ hk => ⟨hk.1.1, ⟨hk.1.2, hk.2⟩⟩)⟩, ⟨by (with_reducible repeat (first | apply Kd.V_alloc | apply Kd.V_drewN | apply Kd.V_drew)); exact Kd.V_mono HO0_1.out (fun _ hk => ⟨hk.1.1, ⟨hk.1.2, hk.2⟩⟩)⟩, ⟨qB BK405⟩, ⟨qB BK406⟩, ⟨qH⟩⟩
 case rest =>
  clear HC4
  (try clear p2)
  obtain ⟨kq, x8_3, rfl, HA, HJ3, HO_406000, HO_406001, BK405, BK406, HB⟩ := hcut
  cases kq with
  | zero => exact absurd HA.out (by simp [disk_Put.j0])
  | succ kj3 =>
   have H := HA.out
   clear HA
   simp only [disk_Put.j0] at H
   by_cases c18 : x8_3 = true
   ·subst c18
    rw [if_pos rfl] at H
    simp only [Option.some.injEq, Prod.mk.injEq] at H
    obtain ⟨rfl, rfl, rfl⟩ := H
    obtain ⟨hnb19, hnc19⟩ := nn_ NB405_406
    obtain ⟨hcz20_0, hcz20_1, hfz20_0, hfz20_1⟩ := e2_ BK405
    obtain ⟨hcz21_0, hcz21_1, hfz21_0, hfz21_1⟩ := e2_ BK406
    go_wp2
    refine bodyPost_ret (results_ct rfl _ _ gb406 25 #[.slice A0_0 l0_0.length c0_0, .slice A0_1 l0_1.length c0_1] (0, 0) _ rfl (by (with_reducible repeat (first | apply xN_ | apply xD_ | apply xA_)); refine blk_put (cs := #[.slice A0_0 l0_0.length c0_0, .slice none 0 0]) ?_ 1 _ rfl; refine blk_put (cs := #[.slice none 0 0, .slice none 0 0]) ?_ 0 _ rfl; (with_reducible repeat (first | apply xN_ | apply xD_ | apply xA_)); exact BK406.out) Try.underlying25 rfl (by kernel_rfl)) rfl ?_
    exact ⟨_, _, eX, by (with_reducible repeat (first | apply Kd.V_alloc | apply Kd.V_drewN | apply Kd.V_drew)); exact Kd.V_mono (vG2 (g := gb406) HO_406000.out (fun _ hk => hk.2.2)) (fun _ hk => hk.1.1), by (with_reducible repeat (first | apply Kd.V_alloc | apply Kd.V_drewN | apply Kd.V_drew)); exact Kd.V_mono (vG2 (g := gb406) HO_406001.out (fun _ hk => hk.2.2)) (fun _ hk => hk.1.1), qH⟩
   ·replace c18 := Bool.eq_false_iff.mpr c18
    subst c18
    rw [if_neg nF_] at H
    by_cases c22 : (a2.size : Int) > 32
    ·rw [if_pos c22] at H
     have c22b0 : decide (32 < (a2.size : Int)) = true := decide_eq_true c22
     have c22b1 : decide (32 < a2.size) = true := decide_eq_true (by omega)
     clear c22
     simp only [Option.some.injEq, Prod.mk.injEq] at H
     obtain ⟨rfl, rfl, rfl⟩ := H
     obtain ⟨hnb23, hnc23⟩ := nn_ NB405_406
     obtain ⟨hcz24_0, hcz24_1, hfz24_0, hfz24_1⟩ := e2_ BK405
     obtain ⟨hcz25_0, hcz25_1, hfz25_0, hfz25_1⟩ := e2_ BK406
     go_wp2
     refine bodyPost_ret (results_ct rfl _ _ gb406 25 #[.slice A0_0 l0_0.length c0_0, .slice A0_1 l0_1.length c0_1] (0, 0) _ rfl (by (with_reducible repeat (first | apply xN_ | apply xD_ | apply xA_)); refine blk_put (cs := #[.slice A0_0 l0_0.length c0_0, .slice none 0 0]) ?_ 1 _ rfl; refine blk_put (cs := #[.slice none 0 0, .slice none 0 0]) ?_ 0 _ rfl; (with_reducible repeat (first | apply xN_ | apply xD_ | apply xA_)); exact BK406.out) Try.underlying25 rfl (by kernel_rfl)) rfl ?_
     exact ⟨_, _, eX, by (with_reducible repeat (first | apply Kd.V_alloc | apply Kd.V_drewN | apply Kd.V_drew)); exact Kd.V_mono (vG2 (g := gb406) HO_406000.out (fun _ hk => hk.2.2)) (fun _ hk => hk.1.1), by (with_reducible repeat (first | apply Kd.V_alloc | apply Kd.V_drewN | apply Kd.V_drew)); exact Kd.V_mono (vG2 (g := gb406) HO_406001.out (fun _ hk => hk.2.2)) (fun _ hk => hk.1.1), qH⟩
    ·rw [if_neg c22] at H
     have c22b0 : decide (32 < (a2.size : Int)) = false := decide_eq_false c22
     have c22b1 : decide (32 < a2.size) = false := decide_eq_false (by omega)
     clear c22
     by_cases c26 : ([] : List (S29)).length + l0_1.length < 5864062014805
     ·rw [if_pos c26] at H
      have LMc26 := Aside0.mk c26
      clear c26
      obtain ⟨y409, hy409⟩ : ∃ y_ : List (S29), y_ = (([] : List (S29)) ++ l0_1) := ⟨_, rfl⟩
      replace H : ((disk_filled.f a2).bind fun t412 => (if y409.length < 5864062014805 then (some (l0_0, (y409 ++ [(⟨a1, t412⟩ : S29)]), 0)) else (none))) = some (r1, r2, r3) := by first | (rw [hy409]; with_reducible exact H) | (have H2_ := (Option.bind_some _ _).symm.trans H; rw [hy409]; with_reducible exact H2_) | (have H2_ := (Option.bind_some _ _).symm.trans H; with_reducible exact H2_) | with_reducible exact H | (rw [hy409]; exact H) | exact H
      have Ny409 := Aside0.mk hy409
      clear hy409
      replace H := Option.bind_eq_some_iff.mp H
      obtain ⟨t412, A270, H⟩ := H
      try dsimp only at H
      have A27 := Aside0.mk A270
      clear A270
      by_cases c28 : y409.length < 5864062014805
      ·rw [if_pos c28] at H
       have LMc28 := Aside0.mk c28
       clear c28
       obtain ⟨y413, hy413⟩ : ∃ y_ : List (S29), y_ = (y409 ++ [(⟨a1, t412⟩ : S29)]) := ⟨_, rfl⟩
       replace H : (some (l0_0, y413, 0)) = some (r1, r2, r3) := by first | (rw [hy413]; with_reducible exact H) | (have H2_ := (Option.bind_some _ _).symm.trans H; rw [hy413]; with_reducible exact H2_) | (have H2_ := (Option.bind_some _ _).symm.trans H; with_reducible exact H2_) | with_reducible exact H | (rw [hy413]; exact H) | exact H
       have Ny413 := Aside0.mk hy413
       clear hy413
       simp only [Option.some.injEq, Prod.mk.injEq] at H
       obtain ⟨rfl, rfl, rfl⟩ := H
       obtain ⟨hnb29, hnc29⟩ := nn_ NB405_406
       obtain ⟨hcz30_0, hcz30_1, hfz30_0, hfz30_1⟩ := e2_ BK405
       go_wp2_with (first | ((with_reducible refine gate_builtin (b := .append) (xs := #[.const (.slice none 0 0), .tmp 25]) rfl ?_); at_builtin; refine Kd.R_append_rows k29 (w0 := w) w.heap.size rfl (.const (.slice none 0 0)) (.tmp 25) 23 29 (.agg #[(.int .i64 0), (.string ⟨#[]⟩)]) 24 rfl Try.underlying23 info29 rfl (by decide) (by omega) (.slice none 0 0) ([] : List (S29)) l0_1 _ _ _ (fun k_ => (w.heap.size ≤ k_)) (fun _ => False) rfl rfl ?aO ?aR (fun _ _ h => h) (fun _ h => h.elim) ?aF ?aB ?aS ?aL ?_; (case aR => repeat (first | exact (Kd.V_reads' HO_406001.out).2.2 | (with_reducible refine Kd.C_alloc ?_ _) | (with_reducible refine Kd.C_drewN ?_ _) | (with_reducible refine Kd.C_drew ?_))); (case aB => exact qH); (case aF => exact (fun k_ hk => (Nat.le_trans (below_size qH) hk))); (case aO => exact ((Kd.R_nil _ _ _ _ (fun k_ => (w.heap.size ≤ k_))))); (case aS => exact (below_size qH)); (case aL => have := LMc26.out; omega); intro v410 w31 ho hb hg hat; rw [← Ny409.out] at ho; have n0_ := Aside0.mk (Kd.V_afterv (Kd.V_apart_nil (qV HO_406000.out)) hg hat); have n1_ := Aside0.mk (Kd.V_afterv (Kd.V_apart_nil (qV HO_406001.out)) hg hat); have n2_ := Aside0.mk (blk_grown (g := gb405) (o := .cells #[.slice A0_0 l0_0.length c0_0, .slice A0_1 l0_1.length c0_1] 25 (0, 0)) (qB BK405) hg (by simp [Value.ownBlock])); have n3_ := Aside0.mk (blk_grown (g := gb406) (o := .cells #[.slice none 0 0, .slice none 0 0] 25 (0, 0)) (qB BK406) hg (by simp [Value.ownBlock])); have n4_ := Aside0.mk (hb); have n5_ := Aside0.mk (ho); clear HO_406000; clear HO_406001; clear BK405; clear BK406; clear HB; have HO_406000 := n0_; have HO_406001 := n1_; have BK405 := n2_; have BK406 := n3_; have HB := n4_; have HO411 := n5_; clear n0_ n1_ n2_ n3_ n4_ n5_; clear ho hb hg hat) | ((with_reducible refine gate_callee (f := 31) rfl ?_); refine gL (some 29) Try.func31 #[.string a2] ?_; (with_reducible refine (disk_filled.calls a2 t412 _ A27.out).mono ?_); rintro e w32 ⟨rfl, hb⟩; refine ⟨_, rfl, ?_⟩; have n0_ := Aside0.mk (Kd.V_below (qV HO_406000.out) hb); have n1_ := Aside0.mk (Kd.V_below (qV HO_406001.out) hb); have n2_ := Aside0.mk (Kd.R_below (qR HO411.out) hb); have n3_ := wB BK405 hb; have n4_ := wB BK406 hb; have n5_ := wH hb; clear HO_406000; clear HO_406001; clear HO411; clear BK405; clear BK406; clear HB; have HO_406000 := n0_; have HO_406001 := n1_; have HO411 := n2_; have BK405 := n3_; have BK406 := n4_; have HB := n5_; clear n0_ n1_ n2_ n3_ n4_ n5_; (try clear hb); (try clear hb2); (try clear hk); (try clear hi)) | ((with_reducible refine gate_builtin (b := .append) (xs := #[.tmp 26, .tmp 31]) rfl ?_); at_builtin; refine Kd.R_append k29 (w0 := w) w.heap.size rfl (.tmp 26) (.tmp 31) 23 29 (.agg #[(.int .i64 0), (.string ⟨#[]⟩)]) 24 rfl Try.underlying23 info29 rfl (by decide) (by omega) v410 y409 (⟨a1, t412⟩ : S29) [.int .i64 a1, .string t412] (fun k_ => (w.heap.size ≤ k_)) (fun _ => False) rfl rfl ?aP (fun _ hk => hk.elim) ?aF ?aO ?aB ?aS ?aL ?_; (case aP => exact k29_mkM _ _ _ (⟨a1, t412⟩ : S29)); (case aB => exact qH); (case aF => exact (fun k_ hk => (Nat.le_trans (below_size qH) hk))); (case aO => exact (qR HO411.out)); (case aS => exact (below_size qH)); (case aL => have := LMc28.out; omega); intro v414 w33 ho hb hg hat; rw [← Ny413.out] at ho; have n0_ := Aside0.mk (Kd.V_afterv (ok := (fun k_ => ((P0_0_ k_ ∨ P0_1_ k_) ∨ w.heap.size ≤ k_) ∧ k_ ≠ gb405 ∧ k_ ≠ gb406)) (by (with_reducible repeat (first | apply Kd.V_alloc | apply Kd.V_drewN | apply Kd.V_drew)); first | exact HO_406000.out | exact Kd.V_mono HO_406000.out (fun _ hk => ⟨⟨hk.1, hk.2.2⟩, hk.2.1⟩)) hg hat); have n1_ := Aside0.mk (Kd.V_afterv (ok := (fun k_ => ((P0_0_ k_ ∨ P0_1_ k_) ∨ w.heap.size ≤ k_) ∧ k_ ≠ gb405 ∧ k_ ≠ gb406)) (by (with_reducible repeat (first | apply Kd.V_alloc | apply Kd.V_drewN | apply Kd.V_drew)); first | exact HO_406001.out | exact Kd.V_mono HO_406001.out (fun _ hk => ⟨⟨hk.1, hk.2.2⟩, hk.2.1⟩)) hg hat); have n2_ := Aside0.mk (blk_grown (g := gb405) (o := .cells #[.slice A0_0 l0_0.length c0_0, .slice A0_1 l0_1.length c0_1] 25 (0, 0)) (qB BK405) hg (Kd.R_ne HO411.out BK405.out (by decide))); have n3_ := Aside0.mk (blk_grown (g := gb406) (o := .cells #[.slice none 0 0, .slice none 0 0] 25 (0, 0)) (qB BK406) hg (Kd.R_ne HO411.out BK406.out (by decide))); have n4_ := Aside0.mk (hb); have n5_ := Aside0.mk (ho); clear HO_406000; clear HO_406001; clear BK405; clear BK406; clear HB; clear HO411; have HO_406000 := n0_; have BK405 := n2_; have BK406 := n3_; have HB := n4_; have HO415 := n5_; clear n0_ n1_ n2_ n3_ n4_ n5_; clear ho hb hg hat; obtain ⟨Ao34, co34, eo34⟩ := Kd.R_slice HO415.out; subst eo34; obtain ⟨hcz35_0, hcz35_1, hfz35_0, hfz35_1⟩ := e2_ BK405; obtain ⟨hcz36_0, hcz36_1, hfz36_0, hfz36_1⟩ := e2_ BK406))
       refine bodyPost_ret (results_ct rfl _ _ gb406 25 #[.slice A0_0 l0_0.length c0_0, .slice Ao34 y413.length co34] (0, 0) _ rfl (by (with_reducible repeat (first | apply xN_ | apply xD_ | apply xA_)); refine blk_put (cs := #[.slice A0_0 l0_0.length c0_0, .slice none 0 0]) ?_ 1 _ rfl; refine blk_put (cs := #[.slice none 0 0, .slice none 0 0]) ?_ 0 _ rfl; refine xR_ ?_ NB406_405.out _; (with_reducible repeat (first | apply xN_ | apply xD_ | apply xA_)); exact BK406.out) Try.underlying25 rfl (by kernel_rfl)) rfl ?_
       exact ⟨_, _, eX, by (with_reducible repeat (first | apply Kd.V_alloc | apply Kd.V_drewN | apply Kd.V_drew)); exact Kd.V_mono (Kd.V_far (p := ⟨gb406, 1, none⟩) (Kd.V_far (p := ⟨gb406, 0, none⟩) (Kd.V_far (p := ⟨gb405, 1, none⟩) (Kd.V_mono (Kd.V_mono HO_406000.out (fun k_ hk => (⟨hk, hk.1.2.1⟩ : _ ∧ k_ ≠ gb405))) (fun k_ hk => (⟨hk, hk.1.1.2.2⟩ : _ ∧ k_ ≠ gb406))) (fun _ hk => hk.1.2) (.slice Ao34 y413.length co34)) (fun _ hk => hk.2) (.slice A0_0 l0_0.length c0_0)) (fun _ hk => hk.2) (.slice Ao34 y413.length co34)) (fun _ hk => hk.1.1.1.1), Kd.V_mono (Kd.R_V (qR (Kd.R_mono (Kd.R_far (p := ⟨gb406, 1, none⟩) (Kd.R_far (p := ⟨gb406, 0, none⟩) (Kd.R_far (p := ⟨gb405, 1, none⟩) (Kd.R_types (Kd.R_types HO415.out BK405.out (by decide)) BK406.out (by decide)) (fun _ hk => hk.1.2) (.slice Ao34 y413.length co34)) (fun _ hk => hk.2) (.slice A0_0 l0_0.length c0_0)) (fun _ hk => hk.2) (.slice Ao34 y413.length co34)) (fun _ hk => hk.1.1)))) (fun k_ hk => by first | exact ⟨(.inr (hk.1)), hk.2⟩ | exact (.inr (hk))), qH⟩
      ·rw [if_neg c28] at H
       exact absurd H (by simp)
     ·rw [if_neg c26] at H
      exact absurd H (by simp)
mutual
def armadaref03_Text.j0 : Nat → Bool → Int → Int → Int → Int → Int → Option (ByteArray × Bool)
 | 0, _, _, _, _, _, _ => none
 | k + 1, x11, x499000, x499001, x499002, x499003, x499004 => if x11 = true then (some ((⟨#[]⟩ : ByteArray), false)) else (if x499001 < 0 then (armadaref03_Text.j1 k true x499000 x499001 x499002 x499003 x499004) else (if x499001 > 1073741824 then (armadaref03_Text.j1 k true x499000 x499001 x499002 x499003 x499004) else (if x499002 < 0 then (armadaref03_Text.j1 k true x499000 x499001 x499002 x499003 x499004) else (if x499002 > 65535 then (armadaref03_Text.j1 k true x499000 x499001 x499002 x499003 x499004) else (if x499003 < 0 then (armadaref03_Text.j1 k true x499000 x499001 x499002 x499003 x499004) else (if x499003 > 4096 then (armadaref03_Text.j1 k true x499000 x499001 x499002 x499003 x499004) else ((armadaref02_Is.f x499004).bind fun t499 => (armadaref03_Text.j1 k (!t499) x499000 x499001 x499002 x499003 x499004))))))))
def armadaref03_Text.j1 : Nat → Bool → Int → Int → Int → Int → Int → Option (ByteArray × Bool)
 | 0, _, _, _, _, _, _ => none
 | k + 1, x45, x499000, x499001, x499002, x499003, x499004 => if x45 = true then (some ((⟨#[]⟩ : ByteArray), false)) else ((some (([(x499000) % 256] : List Int) : List Int)).bind fun y500 => (if 1 + (strOfNums y500).size ≤ 9223372036854775807 then ((armadaref03_four.f x499001).bind fun t503 => (if ((⟨#[72]⟩ : ByteArray) ++ (strOfNums y500)).size + t503.size ≤ 9223372036854775807 then ((armadaref03_four.f x499002).bind fun t504 => (if (((⟨#[72]⟩ : ByteArray) ++ (strOfNums y500)) ++ t503).size + t504.size ≤ 9223372036854775807 then ((armadaref03_four.f x499003).bind fun t505 => (if ((((⟨#[72]⟩ : ByteArray) ++ (strOfNums y500)) ++ t503) ++ t504).size + t505.size ≤ 9223372036854775807 then ((armadaref03_four.f x499004).bind fun t506 => (if (((((⟨#[72]⟩ : ByteArray) ++ (strOfNums y500)) ++ t503) ++ t504) ++ t505).size + t506.size ≤ 9223372036854775807 then ((armadaref03_fill.f k ((((((⟨#[72]⟩ : ByteArray) ++ (strOfNums y500)) ++ t503) ++ t504) ++ t505) ++ t506)).bind fun t507 => (some (t507, true))) else (none))) else (none))) else (none))) else (none))) else (none)))
end
def armadaref03_Text.f (k : Nat) (a0_0 : Int) (a0_1 : Int) (a0_2 : Int) (a0_3 : Int) (a0_4 : Int) : Option (ByteArray × Bool) := if a0_0 = 1 then (armadaref03_Text.j0 k false a0_0 a0_1 a0_2 a0_3 a0_4) else (armadaref03_Text.j0 k (a0_0 != 2) a0_0 a0_1 a0_2 a0_3 a0_4)
theorem armadaref03_Text.mono_l : ∀ k, (∀ y0 y1 y2 y3 y4 y5, LeO (armadaref03_Text.j0 k y0 y1 y2 y3 y4 y5) (armadaref03_Text.j0 (k + 1) y0 y1 y2 y3 y4 y5)) ∧ (∀ y0 y1 y2 y3 y4 y5, LeO (armadaref03_Text.j1 k y0 y1 y2 y3 y4 y5) (armadaref03_Text.j1 (k + 1) y0 y1 y2 y3 y4 y5))
 | 0 => ⟨fun _ _ _ _ _ _ r h => by simp [armadaref03_Text.j0] at h, fun _ _ _ _ _ _ r h => by simp [armadaref03_Text.j1] at h⟩
 | k + 1 => by
  obtain ⟨ih0, ih1⟩ := armadaref03_Text.mono_l k
  refine ⟨?_, ?_⟩
  ·intro y0 y1 y2 y3 y4 y5
   unfold armadaref03_Text.j0
   repeat' first
   | (with_reducible exact ih0 _ _ _ _ _ _)
   | (with_reducible exact ih1 _ _ _ _ _ _)
   | (with_reducible exact armadaref03_fill.mono _ _)
   | (with_reducible exact LeO.refl _)
   | (with_reducible exact LeO.none _)
   | (with_reducible refine LeO.ite ?_ ?_)
   | (with_reducible refine LeO.bind ?_ (fun _ => ?_))
   | exact ih0 _ _ _ _ _ _
   | exact ih1 _ _ _ _ _ _
   | exact armadaref03_fill.mono _ _
   | exact LeO.none _
   | refine LeO.ite ?_ ?_
   | refine LeO.bind ?_ (fun _ => ?_)
  ·intro y0 y1 y2 y3 y4 y5
   unfold armadaref03_Text.j1
   repeat' first
   | (with_reducible exact ih0 _ _ _ _ _ _)
   | (with_reducible exact ih1 _ _ _ _ _ _)
   | (with_reducible exact armadaref03_fill.mono _ _)
   | (with_reducible exact LeO.refl _)
   | (with_reducible exact LeO.none _)
   | (with_reducible refine LeO.ite ?_ ?_)
   | (with_reducible refine LeO.bind ?_ (fun _ => ?_))
   | exact ih0 _ _ _ _ _ _
   | exact ih1 _ _ _ _ _ _
   | exact armadaref03_fill.mono _ _
   | exact LeO.none _
   | refine LeO.ite ?_ ?_
   | refine LeO.bind ?_ (fun _ => ?_)
theorem armadaref03_Text.mono : ∀ a0 a1 a2 a3 a4 k, LeO (armadaref03_Text.f k a0 a1 a2 a3 a4) (armadaref03_Text.f (k + 1) a0 a1 a2 a3 a4) := by
 intro a0 a1 a2 a3 a4 k
 obtain ⟨ih0, ih1⟩ := armadaref03_Text.mono_l k
 unfold armadaref03_Text.f
 repeat' first
   | (with_reducible exact ih0 _ _ _ _ _ _)
   | (with_reducible exact ih1 _ _ _ _ _ _)
   | (with_reducible exact armadaref03_fill.mono _ _)
   | (with_reducible exact LeO.refl _)
   | (with_reducible exact LeO.none _)
   | (with_reducible refine LeO.ite ?_ ?_)
   | (with_reducible refine LeO.bind ?_ (fun _ => ?_))
   | exact ih0 _ _ _ _ _ _
   | exact ih1 _ _ _ _ _ _
   | exact armadaref03_fill.mono _ _
   | exact LeO.none _
   | refine LeO.ite ?_ ?_
   | refine LeO.bind ?_ (fun _ => ?_)
def armadaref03_Text.T5 : Bool × List (List Nat × List Nat) := (true, [([], []), ([0], [0]), ([1], [1]), ([2], [2]), ([3], [3]), ([4], [4]), ([], []), ([6], [6]), ([7], [7]), ([5, 8], [5, 8]), ([], []), ([10], [10]), ([11, 8], [11]), ([9, 12], [9, 12]), ([], []), ([14], [14]), ([15, 12], [15]), ([13, 16], [13, 16]), ([], []), ([18], [18]), ([19, 16], [19]), ([17, 20], [17, 20]), ([21, 20], [21]), ([22, 22, 0, 1, 2, 3, 4, 5, 6, 7, 8, 9, 10, 11, 12, 13, 14, 15, 16, 17, 18, 19, 20, 21, 22], [22]), ([23, 0, 1, 2, 3, 4, 5, 6, 7, 8, 9, 10, 11, 12, 13, 14, 15, 16, 17, 18, 19, 20, 21, 22, 23], [])])
def armadaref03_Text.B5 : List Nat := [0, 1, 3, 7, 15, 31, 0, 64, 192, 511, 0, 1024, 3520, 8191, 0, 16384, 56768, 131071, 0, 262144, 908736, 2097151, 4194303, 8388607, 16777215]
theorem armadaref03_Text.tab5 : rtab .any (opsOf Try.f41 5) = armadaref03_Text.T5 := by kernel_rfl
theorem armadaref03_Text.bits5 : waitsOk armadaref03_Text.T5.2 armadaref03_Text.B5 = true := by kernel_rfl
set_option maxHeartbeats 8000000 in
set_option maxRecDepth 100000 in
theorem armadaref03_Text.calls (k : Nat) (a0_0 : Int) (a0_1 : Int) (a0_2 : Int) (a0_3 : Int) (a0_4 : Int) (r1 : ByteArray) (r2 : Bool) (w : World) (h : armadaref03_Text.f k a0_0 a0_1 a0_2 a0_3 a0_4 = some (r1, r2)) :
  Calls Try.prog 41 #[.agg #[.int .i64 a0_0, .int .i64 a0_1, .int .i64 a0_2, .int .i64 a0_3, .int .i64 a0_4]] w fun e w' => e = .returned (.tuple #[.string r1, .bool r2]) ∧ Below w.heap.size w w' := by
 have hu53 := Try.underlying53
 have HB := Aside0.mk (Below.refl w.heap.size w)
 have H := h
 unfold armadaref03_Text.f at H
 clear h
 have HC2 := Aside0.mk H
 clear H
 go_enter Try.func41, Try.ntmps41
 go_upto_region 1 with (first | ((with_reducible refine gate_dst (N := 1) rfl ?_); refine bE (N := 1) (cs := #[.int .i64 a0_0, .int .i64 a0_1, .int .i64 a0_2, .int .i64 a0_3, .int .i64 a0_4]) (t := 53) ?_; intro gb498 hg w3 hbox hb; have hz_ := zqA HB hb; replace hb := below_step hz_ hb; have BK498 := Aside0.mk hbox; have GE498 := zG HB hz_ hg; replace HB := zH HB hb; clear hz_; clear hb hbox hg))
 (try simp only [Act.put, List.setIfInBounds_toArray, List.set_cons_zero, List.set_cons_succ])
 go_cut [11] (fun v11 wc => ∃ (kq : Nat) (x11_1 : Bool), v11 = .bool x11_1 ∧ Aside0 (armadaref03_Text.j0 kq x11_1 a0_0 a0_1 a0_2 a0_3 a0_4 = some (r1, r2)) ∧ Aside0 (kq ≤ k) ∧ Aside0 (wc.heap[gb498]? = some (.cells #[.int .i64 a0_0, .int .i64 a0_1, .int .i64 a0_2, .int .i64 a0_3, .int .i64 a0_4] 53 (0, 0))) ∧ Aside0 (Below w.heap.size w wc))
 case first =>
  have H := HC2.out
  clear HC2
  by_cases c4 : a0_0 = 1
  ·rw [if_pos c4] at H
   have c4b0 : (a0_0 == 1) = true := beq_iff_eq.mpr c4
   have c4b1 : (a0_0 != 1) = false := bne_eq_false_iff_eq.mpr c4
   clear c4
   (first | rw [c4b0] | (simp only [i64_w, i32_w]; rw [c4b0]) | skip)
   have H' := Aside0.mk H
   clear H
   obtain ⟨hcz5_0, hcz5_1, hcz5_2, hcz5_3, hcz5_4, hfz5_0, hfz5_1, hfz5_2, hfz5_3, hfz5_4⟩ := e5_ BK498
   go_wp2
   go_meet
   case rel => exact ⟨_, (false), eY, H', ⟨by first | omega | exact Nat.le_refl _⟩, ⟨qB BK498⟩, ⟨qH⟩⟩
  ·rw [if_neg c4] at H
   have c4b0 : (a0_0 == 1) = false := beq_eq_false_iff_ne.mpr c4
   have c4b1 : (a0_0 != 1) = true := bne_iff_ne.mpr c4
   (first | rw [c4b0] | (simp only [i64_w, i32_w]; rw [c4b0]) | skip)
   have H' := Aside0.mk H
   clear H
   obtain ⟨hcz6_0, hcz6_1, hcz6_2, hcz6_3, hcz6_4, hfz6_0, hfz6_1, hfz6_2, hfz6_3, hfz6_4⟩ := e5_ BK498
   go_wp2
   go_meet
   case rel => exact ⟨_, ((a0_0 != 2)), eY, H', ⟨by first | omega | exact Nat.le_refl _⟩, ⟨qB BK498⟩, ⟨qH⟩⟩
 case rest =>
  clear HC2
  (try clear p2)
  obtain ⟨kq, x11_1, rfl, HA, HJ1, BK498, HB⟩ := hcut
  cases kq with
  | zero => exact absurd HA.out (by simp [armadaref03_Text.j0])
  | succ kj1 =>
   have H := HA.out
   clear HA
   simp only [armadaref03_Text.j0] at H
   by_cases c7 : x11_1 = true
   ·subst c7
    rw [if_pos rfl] at H
    simp only [Option.some.injEq, Prod.mk.injEq] at H
    obtain ⟨rfl, rfl⟩ := H
    go_wp2
    go_ret2
    exact ⟨eX, qH⟩
   ·replace c7 := Bool.eq_false_iff.mpr c7
    subst c7
    rw [if_neg nF_] at H
    have HC8 := Aside0.mk H
    clear H
    go_upto_region 3 with (fail)
    go_cut [45] (fun v45 wc => ∃ (kq : Nat) (x45_7 : Bool), v45 = .bool x45_7 ∧ Aside0 (armadaref03_Text.j1 kq x45_7 a0_0 a0_1 a0_2 a0_3 a0_4 = some (r1, r2)) ∧ Aside0 (kq ≤ kj1) ∧ Aside0 (wc.heap[gb498]? = some (.cells #[.int .i64 a0_0, .int .i64 a0_1, .int .i64 a0_2, .int .i64 a0_3, .int .i64 a0_4] 53 (0, 0))) ∧ Aside0 (Below w.heap.size w wc))
    case first =>
     have H := HC8.out
     clear HC8
     by_cases c9 : a0_1 < 0
     ·rw [if_pos c9] at H
      have c9b0 : decide (a0_1 < 0) = true := decide_eq_true c9
      clear c9
      (first | rw [c9b0] | (simp only [i64_w, i32_w]; rw [c9b0]) | skip)
      have H' := Aside0.mk H
      clear H
      obtain ⟨hcz10_0, hcz10_1, hcz10_2, hcz10_3, hcz10_4, hfz10_0, hfz10_1, hfz10_2, hfz10_3, hfz10_4⟩ := e5_ BK498
      go_wp2
      go_meet
      case rel => exact ⟨_, (true), eY, H', ⟨by have := HJ1.out; first | omega | exact Nat.le_refl _⟩, ⟨qB BK498⟩, ⟨qH⟩⟩
     ·rw [if_neg c9] at H
      have c9b0 : decide (a0_1 < 0) = false := decide_eq_false c9
      clear c9
      (first | rw [c9b0] | (simp only [i64_w, i32_w]; rw [c9b0]) | skip)
      by_cases c11 : a0_1 > 1073741824
      ·rw [if_pos c11] at H
       have c11b0 : decide (1073741824 < a0_1) = true := decide_eq_true c11
       clear c11
       have H' := Aside0.mk H
       clear H
       obtain ⟨hcz12_0, hcz12_1, hcz12_2, hcz12_3, hcz12_4, hfz12_0, hfz12_1, hfz12_2, hfz12_3, hfz12_4⟩ := e5_ BK498
       go_wp2
       go_meet
       case rel => exact ⟨_, (true), eY, H', ⟨by have := HJ1.out; first | omega | exact Nat.le_refl _⟩, ⟨qB BK498⟩, ⟨qH⟩⟩
      ·rw [if_neg c11] at H
       have c11b0 : decide (1073741824 < a0_1) = false := decide_eq_false c11
       clear c11
       by_cases c13 : a0_2 < 0
       ·rw [if_pos c13] at H
        have c13b0 : decide (a0_2 < 0) = true := decide_eq_true c13
        clear c13
        have H' := Aside0.mk H
        clear H
        obtain ⟨hcz14_0, hcz14_1, hcz14_2, hcz14_3, hcz14_4, hfz14_0, hfz14_1, hfz14_2, hfz14_3, hfz14_4⟩ := e5_ BK498
        go_wp2
        go_meet
        case rel => exact ⟨_, (true), eY, H', ⟨by have := HJ1.out; first | omega | exact Nat.le_refl _⟩, ⟨qB BK498⟩, ⟨qH⟩⟩
       ·rw [if_neg c13] at H
        have c13b0 : decide (a0_2 < 0) = false := decide_eq_false c13
        clear c13
        by_cases c15 : a0_2 > 65535
        ·rw [if_pos c15] at H
         have c15b0 : decide (65535 < a0_2) = true := decide_eq_true c15
         clear c15
         have H' := Aside0.mk H
         clear H
         obtain ⟨hcz16_0, hcz16_1, hcz16_2, hcz16_3, hcz16_4, hfz16_0, hfz16_1, hfz16_2, hfz16_3, hfz16_4⟩ := e5_ BK498
         go_wp2
         go_meet
         case rel => exact ⟨_, (true), eY, H', ⟨by have := HJ1.out; first | omega | exact Nat.le_refl _⟩, ⟨qB BK498⟩, ⟨qH⟩⟩
        ·rw [if_neg c15] at H
         have c15b0 : decide (65535 < a0_2) = false := decide_eq_false c15
         clear c15
         by_cases c17 : a0_3 < 0
         ·rw [if_pos c17] at H
          have c17b0 : decide (a0_3 < 0) = true := decide_eq_true c17
          clear c17
          have H' := Aside0.mk H
          clear H
          obtain ⟨hcz18_0, hcz18_1, hcz18_2, hcz18_3, hcz18_4, hfz18_0, hfz18_1, hfz18_2, hfz18_3, hfz18_4⟩ := e5_ BK498
          go_wp2
          go_meet
          case rel => exact ⟨_, (true), eY, H', ⟨by have := HJ1.out; first | omega | exact Nat.le_refl _⟩, ⟨qB BK498⟩, ⟨qH⟩⟩
         ·rw [if_neg c17] at H
          have c17b0 : decide (a0_3 < 0) = false := decide_eq_false c17
          clear c17
          by_cases c19 : a0_3 > 4096
          ·rw [if_pos c19] at H
           have c19b0 : decide (4096 < a0_3) = true := decide_eq_true c19
           clear c19
           have H' := Aside0.mk H
           clear H
           obtain ⟨hcz20_0, hcz20_1, hcz20_2, hcz20_3, hcz20_4, hfz20_0, hfz20_1, hfz20_2, hfz20_3, hfz20_4⟩ := e5_ BK498
           go_wp2
           go_meet
           case rel => exact ⟨_, (true), eY, H', ⟨by have := HJ1.out; first | omega | exact Nat.le_refl _⟩, ⟨qB BK498⟩, ⟨qH⟩⟩
          ·rw [if_neg c19] at H
           have c19b0 : decide (4096 < a0_3) = false := decide_eq_false c19
           clear c19
           replace H := Option.bind_eq_some_iff.mp H
           obtain ⟨t499, A210, H⟩ := H
           try dsimp only at H
           have A21 := Aside0.mk A210
           clear A210
           have H' := Aside0.mk H
           clear H
           obtain ⟨hcz22_0, hcz22_1, hcz22_2, hcz22_3, hcz22_4, hfz22_0, hfz22_1, hfz22_2, hfz22_3, hfz22_4⟩ := e5_ BK498
           go_wp2_with (first | (go_at_call 59; (with_reducible refine (armadaref02_Is.calls a0_4 t499 _ A21.out).mono ?_); rintro e w' ⟨rfl, ⟨nd, rfl⟩⟩))
           go_meet
           case rel => exact ⟨_, (!t499), eY, H', ⟨by have := HJ1.out; first | omega | exact Nat.le_refl _⟩, ⟨qB BK498⟩, ⟨qH⟩⟩
    case rest =>
     clear HC8
     (try clear p2); (try clear c7); (try clear p2)
     obtain ⟨kq, x45_7, rfl, HA, HJ7, BK498, HB⟩ := hcut
     cases kq with
     | zero => exact absurd HA.out (by simp [armadaref03_Text.j1])
     | succ kj7 =>
      have H := HA.out
      clear HA
      simp only [armadaref03_Text.j1] at H
      by_cases c23 : x45_7 = true
      ·subst c23
       rw [if_pos rfl] at H
       simp only [Option.some.injEq, Prod.mk.injEq] at H
       obtain ⟨rfl, rfl⟩ := H
       go_wp2
       go_ret2
       exact ⟨eX, qH⟩
      ·replace c23 := Bool.eq_false_iff.mpr c23
       subst c23
       rw [if_neg nF_] at H
       obtain ⟨y500, hy500⟩ : ∃ y_ : List Int, y_ = (([(a0_0) % 256] : List Int)) := ⟨_, rfl⟩
       replace H : (if 1 + (strOfNums y500).size ≤ 9223372036854775807 then ((armadaref03_four.f a0_1).bind fun t503 => (if ((⟨#[72]⟩ : ByteArray) ++ (strOfNums y500)).size + t503.size ≤ 9223372036854775807 then ((armadaref03_four.f a0_2).bind fun t504 => (if (((⟨#[72]⟩ : ByteArray) ++ (strOfNums y500)) ++ t503).size + t504.size ≤ 9223372036854775807 then ((armadaref03_four.f a0_3).bind fun t505 => (if ((((⟨#[72]⟩ : ByteArray) ++ (strOfNums y500)) ++ t503) ++ t504).size + t505.size ≤ 9223372036854775807 then ((armadaref03_four.f a0_4).bind fun t506 => (if (((((⟨#[72]⟩ : ByteArray) ++ (strOfNums y500)) ++ t503) ++ t504) ++ t505).size + t506.size ≤ 9223372036854775807 then ((armadaref03_fill.f kj7 ((((((⟨#[72]⟩ : ByteArray) ++ (strOfNums y500)) ++ t503) ++ t504) ++ t505) ++ t506)).bind fun t507 => (some (t507, true))) else (none))) else (none))) else (none))) else (none))) else (none)) = some (r1, r2) := by first | (rw [hy500]; with_reducible exact H) | (have H2_ := (Option.bind_some _ _).symm.trans H; rw [hy500]; with_reducible exact H2_) | (have H2_ := (Option.bind_some _ _).symm.trans H; with_reducible exact H2_) | with_reducible exact H | (rw [hy500]; exact H) | exact H
       have Ny500 := Aside0.mk hy500
       clear hy500
       by_cases c24 : 1 + (strOfNums y500).size ≤ 9223372036854775807
       ·rw [if_pos c24] at H
        have c24b0 := eq_true c24
        have c24b1 : decide (1 + (strOfNums y500).size ≤ 9223372036854775807) = true := decide_eq_true c24
        try have c24b2 : (9223372036854775807 < 1 + (strOfNums y500).size) = False := eq_false (Nat.not_lt.2 c24)
        replace H := Option.bind_eq_some_iff.mp H
        obtain ⟨t503, A250, H⟩ := H
        try dsimp only at H
        have A25 := Aside0.mk A250
        clear A250
        by_cases c26 : ((⟨#[72]⟩ : ByteArray) ++ (strOfNums y500)).size + t503.size ≤ 9223372036854775807
        ·rw [if_pos c26] at H
         have c26b0 := eq_true c26
         have c26b1 : decide (((⟨#[72]⟩ : ByteArray) ++ (strOfNums y500)).size + t503.size ≤ 9223372036854775807) = true := decide_eq_true c26
         try have c26b2 : (9223372036854775807 < ((⟨#[72]⟩ : ByteArray) ++ (strOfNums y500)).size + t503.size) = False := eq_false (Nat.not_lt.2 c26)
         (try (have c26b3 := c26; simp only [show (⟨#[72]⟩ : ByteArray).size = 1 from rfl, ByteArray.size_append, ByteArray.size_extract] at c26b3; have c26b4 := eq_true c26b3; have c26b5 := decide_eq_true c26b3; have c26b6 := eq_false (Nat.not_lt.2 c26b3)))
         replace H := Option.bind_eq_some_iff.mp H
         obtain ⟨t504, A270, H⟩ := H
         try dsimp only at H
         have A27 := Aside0.mk A270
         clear A270
         by_cases c28 : (((⟨#[72]⟩ : ByteArray) ++ (strOfNums y500)) ++ t503).size + t504.size ≤ 9223372036854775807
         ·rw [if_pos c28] at H
          have c28b0 := eq_true c28
          have c28b1 : decide ((((⟨#[72]⟩ : ByteArray) ++ (strOfNums y500)) ++ t503).size + t504.size ≤ 9223372036854775807) = true := decide_eq_true c28
          try have c28b2 : (9223372036854775807 < (((⟨#[72]⟩ : ByteArray) ++ (strOfNums y500)) ++ t503).size + t504.size) = False := eq_false (Nat.not_lt.2 c28)
          (try (have c28b3 := c28; simp only [show (⟨#[72]⟩ : ByteArray).size = 1 from rfl, ByteArray.size_append, ByteArray.size_extract] at c28b3; have c28b4 := eq_true c28b3; have c28b5 := decide_eq_true c28b3; have c28b6 := eq_false (Nat.not_lt.2 c28b3)))
          replace H := Option.bind_eq_some_iff.mp H
          obtain ⟨t505, A290, H⟩ := H
          try dsimp only at H
          have A29 := Aside0.mk A290
          clear A290
          by_cases c30 : ((((⟨#[72]⟩ : ByteArray) ++ (strOfNums y500)) ++ t503) ++ t504).size + t505.size ≤ 9223372036854775807
          ·rw [if_pos c30] at H
           have c30b0 := eq_true c30
           have c30b1 : decide (((((⟨#[72]⟩ : ByteArray) ++ (strOfNums y500)) ++ t503) ++ t504).size + t505.size ≤ 9223372036854775807) = true := decide_eq_true c30
           try have c30b2 : (9223372036854775807 < ((((⟨#[72]⟩ : ByteArray) ++ (strOfNums y500)) ++ t503) ++ t504).size + t505.size) = False := eq_false (Nat.not_lt.2 c30)
           (try (have c30b3 := c30; simp only [show (⟨#[72]⟩ : ByteArray).size = 1 from rfl, ByteArray.size_append, ByteArray.size_extract] at c30b3; have c30b4 := eq_true c30b3; have c30b5 := decide_eq_true c30b3; have c30b6 := eq_false (Nat.not_lt.2 c30b3)))
           replace H := Option.bind_eq_some_iff.mp H
           obtain ⟨t506, A310, H⟩ := H
           try dsimp only at H
           have A31 := Aside0.mk A310
           clear A310
           by_cases c32 : (((((⟨#[72]⟩ : ByteArray) ++ (strOfNums y500)) ++ t503) ++ t504) ++ t505).size + t506.size ≤ 9223372036854775807
           ·rw [if_pos c32] at H
            have c32b0 := eq_true c32
            have c32b1 : decide ((((((⟨#[72]⟩ : ByteArray) ++ (strOfNums y500)) ++ t503) ++ t504) ++ t505).size + t506.size ≤ 9223372036854775807) = true := decide_eq_true c32
            try have c32b2 : (9223372036854775807 < (((((⟨#[72]⟩ : ByteArray) ++ (strOfNums y500)) ++ t503) ++ t504) ++ t505).size + t506.size) = False := eq_false (Nat.not_lt.2 c32)
            (try (have c32b3 := c32; simp only [show (⟨#[72]⟩ : ByteArray).size = 1 from rfl, ByteArray.size_append, ByteArray.size_extract] at c32b3; have c32b4 := eq_true c32b3; have c32b5 := decide_eq_true c32b3; have c32b6 := eq_false (Nat.not_lt.2 c32b3)))
            replace H := Option.bind_eq_some_iff.mp H
            obtain ⟨t507, A330, H⟩ := H
            try dsimp only at H
            have A33 := Aside0.mk A330
            clear A330
            simp only [Option.some.injEq, Prod.mk.injEq] at H
            obtain ⟨rfl, rfl⟩ := H
            try go_wp2
            replace BK498 := Aside0.mk (xD_ BK498.out)
            replace HB := Aside0.mk (yD_ HB.out)
            refine start_ (n := 25) (S := fun w' => w'.cell? ⟨gb498, 0, none⟩ = some (.int .i64 a0_0) ∧ w'.cell? ⟨gb498, 1, none⟩ = some (.int .i64 a0_1) ∧ w'.cell? ⟨gb498, 2, none⟩ = some (.int .i64 a0_2) ∧ w'.cell? ⟨gb498, 3, none⟩ = some (.int .i64 a0_3) ∧ w'.cell? ⟨gb498, 4, none⟩ = some (.int .i64 a0_4)) (ds := []) #[F_,F_,F_,F_,F_,F_,F_,F_,F_,F_,F_,F_,F_,F_,F_,F_,F_,F_,F_,F_,F_,F_,F_,F_,F_] (by kernel_rfl) rfl rfl ⟨c0_ BK498, c1_ BK498, c2_ BK498, c3_ BK498, c4_ BK498⟩ (fun hHeld => ?_); refine with_tabW armadaref03_Text.tab5 armadaref03_Text.bits5 (fun HT_ HW_ => ?_)
            generalize wc.drew = w34 at BK498 HB hHeld ⊢
            refine pU 0 (some 46) #[T_,F_,F_,F_,F_,F_,F_,F_,F_,F_,F_,F_,F_,F_,F_,F_,F_,F_,F_,F_,F_,F_,F_,F_,F_] HT_ ?_
            refine pU 6 (some 52) #[T_,F_,F_,F_,F_,F_,T_,F_,F_,F_,F_,F_,F_,F_,F_,F_,F_,F_,F_,F_,F_,F_,F_,F_,F_] HT_ ?_
            refine pU 10 (some 56) #[T_,F_,F_,F_,F_,F_,T_,F_,F_,F_,T_,F_,F_,F_,F_,F_,F_,F_,F_,F_,F_,F_,F_,F_,F_] HT_ ?_
            refine pU 14 (some 60) #[T_,F_,F_,F_,F_,F_,T_,F_,F_,F_,T_,F_,F_,F_,T_,F_,F_,F_,F_,F_,F_,F_,F_,F_,F_] HT_ ?_
            refine pU 18 (some 64) #[T_,F_,F_,F_,F_,F_,T_,F_,F_,F_,T_,F_,F_,F_,T_,F_,F_,F_,T_,F_,F_,F_,F_,F_,F_] HT_ ?_
            refine tK 1 (some 47) #[T_,T_,F_,F_,F_,F_,T_,F_,F_,F_,T_,F_,F_,F_,T_,F_,F_,F_,T_,F_,F_,F_,F_,F_,F_] HT_ HW_ hHeld ?_
            refine pU 2 (some 48) #[T_,T_,T_,F_,F_,F_,T_,F_,F_,F_,T_,F_,F_,F_,T_,F_,F_,F_,T_,F_,F_,F_,F_,F_,F_] HT_ ?_
            refine tK 7 (some 53) #[T_,T_,T_,F_,F_,F_,T_,T_,F_,F_,T_,F_,F_,F_,T_,F_,F_,F_,T_,F_,F_,F_,F_,F_,F_] HT_ HW_ hHeld ?_
            refine tK 11 (some 57) #[T_,T_,T_,F_,F_,F_,T_,T_,F_,F_,T_,T_,F_,F_,T_,F_,F_,F_,T_,F_,F_,F_,F_,F_,F_] HT_ HW_ hHeld ?_
            refine tK 15 (some 61) #[T_,T_,T_,F_,F_,F_,T_,T_,F_,F_,T_,T_,F_,F_,T_,T_,F_,F_,T_,F_,F_,F_,F_,F_,F_] HT_ HW_ hHeld ?_
            refine tK 19 (some 65) #[T_,T_,T_,F_,F_,F_,T_,T_,F_,F_,T_,T_,F_,F_,T_,T_,F_,F_,T_,T_,F_,F_,F_,F_,F_] HT_ HW_ hHeld ?_
            refine join_ (σ := Value) 4 #[T_,T_,T_,T_,T_,T_,T_,T_,T_,T_,T_,T_,T_,T_,T_,T_,T_,T_,T_,T_,T_,F_,F_,F_,F_] (fun s_ => [(49, s_), (50, .string (strOfNums y500)), (54, .string t503), (58, .string t504), (62, .string t505), (66, .string t506), (51, .string ((⟨#[72]⟩ : ByteArray) ++ (strOfNums y500))), (55, .string (((⟨#[72]⟩ : ByteArray) ++ (strOfNums y500)) ++ t503)), (59, .string ((((⟨#[72]⟩ : ByteArray) ++ (strOfNums y500)) ++ t503) ++ t504)), (63, .string (((((⟨#[72]⟩ : ByteArray) ++ (strOfNums y500)) ++ t503) ++ t504) ++ t505))]) (fun s_ w' => (w'.cell? ⟨gb498, 0, none⟩ = some (.int .i64 a0_0) ∧ w'.cell? ⟨gb498, 1, none⟩ = some (.int .i64 a0_1) ∧ w'.cell? ⟨gb498, 2, none⟩ = some (.int .i64 a0_2) ∧ w'.cell? ⟨gb498, 3, none⟩ = some (.int .i64 a0_3) ∧ w'.cell? ⟨gb498, 4, none⟩ = some (.int .i64 a0_4)) ∧ (Kd.R (Kd.int .u8) 5 w' w.heap.size (fun _ => True) s_ y500) ∧ (w'.heap[gb498]? = some (.cells #[.int .i64 a0_0, .int .i64 a0_1, .int .i64 a0_2, .int .i64 a0_3, .int .i64 a0_4] 53 (0, 0))) ∧ (Below w.heap.size w w')) ?_ ?_
            rotate_left
            ·intro hJ3_4_8_12_16_20
             refine join_ (σ := Value) 5 #[T_,T_,T_,T_,T_,T_,T_,T_,T_,T_,T_,T_,T_,T_,T_,T_,T_,T_,T_,T_,F_,F_,F_,F_,F_] (fun s_ => [(49, s_), (50, .string (strOfNums y500)), (54, .string t503), (58, .string t504), (62, .string t505), (51, .string ((⟨#[72]⟩ : ByteArray) ++ (strOfNums y500))), (55, .string (((⟨#[72]⟩ : ByteArray) ++ (strOfNums y500)) ++ t503)), (59, .string ((((⟨#[72]⟩ : ByteArray) ++ (strOfNums y500)) ++ t503) ++ t504)), (63, .string (((((⟨#[72]⟩ : ByteArray) ++ (strOfNums y500)) ++ t503) ++ t504) ++ t505))]) (fun s_ w' => (w'.cell? ⟨gb498, 0, none⟩ = some (.int .i64 a0_0) ∧ w'.cell? ⟨gb498, 1, none⟩ = some (.int .i64 a0_1) ∧ w'.cell? ⟨gb498, 2, none⟩ = some (.int .i64 a0_2) ∧ w'.cell? ⟨gb498, 3, none⟩ = some (.int .i64 a0_3) ∧ w'.cell? ⟨gb498, 4, none⟩ = some (.int .i64 a0_4)) ∧ (Kd.R (Kd.int .u8) 5 w' w.heap.size (fun _ => True) s_ y500) ∧ (w'.heap[gb498]? = some (.cells #[.int .i64 a0_0, .int .i64 a0_1, .int .i64 a0_2, .int .i64 a0_3, .int .i64 a0_4] 53 (0, 0))) ∧ (Below w.heap.size w w')) ?_ ?_
             rotate_left
             ·intro hJ3_4_8_12_16
              refine join_ (σ := Value) 9 #[T_,T_,T_,T_,F_,F_,T_,T_,T_,F_,T_,T_,T_,F_,T_,T_,T_,F_,T_,T_,T_,F_,F_,F_,F_] (fun s_ => [(49, s_), (54, .string t503), (58, .string t504), (62, .string t505), (66, .string t506)]) (fun s_ w' => (w'.cell? ⟨gb498, 0, none⟩ = some (.int .i64 a0_0) ∧ w'.cell? ⟨gb498, 1, none⟩ = some (.int .i64 a0_1) ∧ w'.cell? ⟨gb498, 2, none⟩ = some (.int .i64 a0_2) ∧ w'.cell? ⟨gb498, 3, none⟩ = some (.int .i64 a0_3) ∧ w'.cell? ⟨gb498, 4, none⟩ = some (.int .i64 a0_4)) ∧ (Kd.R (Kd.int .u8) 5 w' w.heap.size (fun _ => True) s_ y500) ∧ (w'.heap[gb498]? = some (.cells #[.int .i64 a0_0, .int .i64 a0_1, .int .i64 a0_2, .int .i64 a0_3, .int .i64 a0_4] 53 (0, 0))) ∧ (Below w.heap.size w w')) ?_ ?_
              rotate_left
              ·intro hJ3_8_12_16_20
               refine join_ (σ := Value) 7 #[T_,T_,T_,T_,T_,T_,T_,T_,T_,T_,T_,T_,T_,T_,T_,T_,F_,F_,T_,T_,F_,F_,F_,F_,F_] (fun s_ => [(49, s_), (50, .string (strOfNums y500)), (54, .string t503), (58, .string t504), (51, .string ((⟨#[72]⟩ : ByteArray) ++ (strOfNums y500))), (55, .string (((⟨#[72]⟩ : ByteArray) ++ (strOfNums y500)) ++ t503)), (59, .string ((((⟨#[72]⟩ : ByteArray) ++ (strOfNums y500)) ++ t503) ++ t504))]) (fun s_ w' => (w'.cell? ⟨gb498, 0, none⟩ = some (.int .i64 a0_0) ∧ w'.cell? ⟨gb498, 1, none⟩ = some (.int .i64 a0_1) ∧ w'.cell? ⟨gb498, 2, none⟩ = some (.int .i64 a0_2) ∧ w'.cell? ⟨gb498, 3, none⟩ = some (.int .i64 a0_3) ∧ w'.cell? ⟨gb498, 4, none⟩ = some (.int .i64 a0_4)) ∧ (Kd.R (Kd.int .u8) 5 w' w.heap.size (fun _ => True) s_ y500) ∧ (w'.heap[gb498]? = some (.cells #[.int .i64 a0_0, .int .i64 a0_1, .int .i64 a0_2, .int .i64 a0_3, .int .i64 a0_4] 53 (0, 0))) ∧ (Below w.heap.size w w')) ?_ ?_
               rotate_left
               ·intro hJ3_4_8_12
                refine join_ (σ := Value) 10 #[T_,T_,T_,T_,F_,F_,T_,T_,T_,F_,T_,T_,T_,F_,T_,T_,T_,F_,T_,T_,F_,F_,F_,F_,F_] (fun s_ => [(49, s_), (54, .string t503), (58, .string t504), (62, .string t505)]) (fun s_ w' => (w'.cell? ⟨gb498, 0, none⟩ = some (.int .i64 a0_0) ∧ w'.cell? ⟨gb498, 1, none⟩ = some (.int .i64 a0_1) ∧ w'.cell? ⟨gb498, 2, none⟩ = some (.int .i64 a0_2) ∧ w'.cell? ⟨gb498, 3, none⟩ = some (.int .i64 a0_3) ∧ w'.cell? ⟨gb498, 4, none⟩ = some (.int .i64 a0_4)) ∧ (Kd.R (Kd.int .u8) 5 w' w.heap.size (fun _ => True) s_ y500) ∧ (w'.heap[gb498]? = some (.cells #[.int .i64 a0_0, .int .i64 a0_1, .int .i64 a0_2, .int .i64 a0_3, .int .i64 a0_4] 53 (0, 0))) ∧ (Below w.heap.size w w')) ?_ ?_
                rotate_left
                ·intro hJ3_8_12_16
                 refine join_ (σ := Unit) 10 #[T_,T_,T_,F_,F_,F_,T_,T_,T_,F_,T_,T_,T_,F_,T_,T_,T_,F_,T_,T_,T_,F_,F_,F_,F_] (fun s_ => [(54, .string t503), (58, .string t504), (62, .string t505), (66, .string t506)]) (fun s_ w' => (w'.cell? ⟨gb498, 0, none⟩ = some (.int .i64 a0_0) ∧ w'.cell? ⟨gb498, 1, none⟩ = some (.int .i64 a0_1) ∧ w'.cell? ⟨gb498, 2, none⟩ = some (.int .i64 a0_2) ∧ w'.cell? ⟨gb498, 3, none⟩ = some (.int .i64 a0_3) ∧ w'.cell? ⟨gb498, 4, none⟩ = some (.int .i64 a0_4)) ∧ (w'.heap[gb498]? = some (.cells #[.int .i64 a0_0, .int .i64 a0_1, .int .i64 a0_2, .int .i64 a0_3, .int .i64 a0_4] 53 (0, 0))) ∧ (Below w.heap.size w w')) ?_ ?_
                 rotate_left
                 ·intro hJ8_12_16_20
                  refine join_ (σ := Value) 9 #[T_,T_,T_,T_,T_,T_,T_,T_,T_,T_,T_,T_,F_,F_,T_,T_,F_,F_,T_,T_,F_,F_,F_,F_,F_] (fun s_ => [(49, s_), (50, .string (strOfNums y500)), (54, .string t503), (51, .string ((⟨#[72]⟩ : ByteArray) ++ (strOfNums y500))), (55, .string (((⟨#[72]⟩ : ByteArray) ++ (strOfNums y500)) ++ t503))]) (fun s_ w' => (w'.cell? ⟨gb498, 0, none⟩ = some (.int .i64 a0_0) ∧ w'.cell? ⟨gb498, 1, none⟩ = some (.int .i64 a0_1) ∧ w'.cell? ⟨gb498, 2, none⟩ = some (.int .i64 a0_2) ∧ w'.cell? ⟨gb498, 3, none⟩ = some (.int .i64 a0_3) ∧ w'.cell? ⟨gb498, 4, none⟩ = some (.int .i64 a0_4)) ∧ (Kd.R (Kd.int .u8) 5 w' w.heap.size (fun _ => True) s_ y500) ∧ (w'.heap[gb498]? = some (.cells #[.int .i64 a0_0, .int .i64 a0_1, .int .i64 a0_2, .int .i64 a0_3, .int .i64 a0_4] 53 (0, 0))) ∧ (Below w.heap.size w w')) ?_ ?_
                  rotate_left
                  ·intro hJ3_4_8
                   refine join_ (σ := Value) 11 #[T_,T_,T_,T_,F_,F_,T_,T_,T_,F_,T_,T_,T_,F_,T_,T_,F_,F_,T_,T_,F_,F_,F_,F_,F_] (fun s_ => [(49, s_), (54, .string t503), (58, .string t504)]) (fun s_ w' => (w'.cell? ⟨gb498, 0, none⟩ = some (.int .i64 a0_0) ∧ w'.cell? ⟨gb498, 1, none⟩ = some (.int .i64 a0_1) ∧ w'.cell? ⟨gb498, 2, none⟩ = some (.int .i64 a0_2) ∧ w'.cell? ⟨gb498, 3, none⟩ = some (.int .i64 a0_3) ∧ w'.cell? ⟨gb498, 4, none⟩ = some (.int .i64 a0_4)) ∧ (Kd.R (Kd.int .u8) 5 w' w.heap.size (fun _ => True) s_ y500) ∧ (w'.heap[gb498]? = some (.cells #[.int .i64 a0_0, .int .i64 a0_1, .int .i64 a0_2, .int .i64 a0_3, .int .i64 a0_4] 53 (0, 0))) ∧ (Below w.heap.size w w')) ?_ ?_
                   rotate_left
                   ·intro hJ3_8_12
                    refine join_ (σ := Unit) 11 #[T_,T_,T_,F_,F_,F_,T_,T_,T_,F_,T_,T_,T_,F_,T_,T_,T_,F_,T_,T_,F_,F_,F_,F_,F_] (fun s_ => [(54, .string t503), (58, .string t504), (62, .string t505)]) (fun s_ w' => (w'.cell? ⟨gb498, 0, none⟩ = some (.int .i64 a0_0) ∧ w'.cell? ⟨gb498, 1, none⟩ = some (.int .i64 a0_1) ∧ w'.cell? ⟨gb498, 2, none⟩ = some (.int .i64 a0_2) ∧ w'.cell? ⟨gb498, 3, none⟩ = some (.int .i64 a0_3) ∧ w'.cell? ⟨gb498, 4, none⟩ = some (.int .i64 a0_4)) ∧ (w'.heap[gb498]? = some (.cells #[.int .i64 a0_0, .int .i64 a0_1, .int .i64 a0_2, .int .i64 a0_3, .int .i64 a0_4] 53 (0, 0))) ∧ (Below w.heap.size w w')) ?_ ?_
                    rotate_left
                    ·intro hJ8_12_16
                     refine join_ (σ := Value) 11 #[T_,T_,T_,T_,T_,T_,T_,T_,F_,F_,T_,T_,F_,F_,T_,T_,F_,F_,T_,T_,F_,F_,F_,F_,F_] (fun s_ => [(49, s_), (50, .string (strOfNums y500)), (51, .string ((⟨#[72]⟩ : ByteArray) ++ (strOfNums y500)))]) (fun s_ w' => (w'.cell? ⟨gb498, 0, none⟩ = some (.int .i64 a0_0) ∧ w'.cell? ⟨gb498, 1, none⟩ = some (.int .i64 a0_1) ∧ w'.cell? ⟨gb498, 2, none⟩ = some (.int .i64 a0_2) ∧ w'.cell? ⟨gb498, 3, none⟩ = some (.int .i64 a0_3) ∧ w'.cell? ⟨gb498, 4, none⟩ = some (.int .i64 a0_4)) ∧ (Kd.R (Kd.int .u8) 5 w' w.heap.size (fun _ => True) s_ y500) ∧ (w'.heap[gb498]? = some (.cells #[.int .i64 a0_0, .int .i64 a0_1, .int .i64 a0_2, .int .i64 a0_3, .int .i64 a0_4] 53 (0, 0))) ∧ (Below w.heap.size w w')) ?_ ?_
                     rotate_left
                     ·intro hJ3_4
                      refine join_ (σ := Value) 12 #[T_,T_,T_,T_,F_,F_,T_,T_,T_,F_,T_,T_,F_,F_,T_,T_,F_,F_,T_,T_,F_,F_,F_,F_,F_] (fun s_ => [(49, s_), (54, .string t503)]) (fun s_ w' => (w'.cell? ⟨gb498, 0, none⟩ = some (.int .i64 a0_0) ∧ w'.cell? ⟨gb498, 1, none⟩ = some (.int .i64 a0_1) ∧ w'.cell? ⟨gb498, 2, none⟩ = some (.int .i64 a0_2) ∧ w'.cell? ⟨gb498, 3, none⟩ = some (.int .i64 a0_3) ∧ w'.cell? ⟨gb498, 4, none⟩ = some (.int .i64 a0_4)) ∧ (Kd.R (Kd.int .u8) 5 w' w.heap.size (fun _ => True) s_ y500) ∧ (w'.heap[gb498]? = some (.cells #[.int .i64 a0_0, .int .i64 a0_1, .int .i64 a0_2, .int .i64 a0_3, .int .i64 a0_4] 53 (0, 0))) ∧ (Below w.heap.size w w')) ?_ ?_
                      rotate_left
                      ·intro hJ3_8
                       refine join_ (σ := Unit) 12 #[T_,T_,T_,F_,F_,F_,T_,T_,T_,F_,T_,T_,T_,F_,T_,T_,F_,F_,T_,T_,F_,F_,F_,F_,F_] (fun s_ => [(54, .string t503), (58, .string t504)]) (fun s_ w' => (w'.cell? ⟨gb498, 0, none⟩ = some (.int .i64 a0_0) ∧ w'.cell? ⟨gb498, 1, none⟩ = some (.int .i64 a0_1) ∧ w'.cell? ⟨gb498, 2, none⟩ = some (.int .i64 a0_2) ∧ w'.cell? ⟨gb498, 3, none⟩ = some (.int .i64 a0_3) ∧ w'.cell? ⟨gb498, 4, none⟩ = some (.int .i64 a0_4)) ∧ (w'.heap[gb498]? = some (.cells #[.int .i64 a0_0, .int .i64 a0_1, .int .i64 a0_2, .int .i64 a0_3, .int .i64 a0_4] 53 (0, 0))) ∧ (Below w.heap.size w w')) ?_ ?_
                       rotate_left
                       ·intro hJ8_12
                        refine join_ (σ := Value) 13 #[T_,T_,T_,T_,F_,F_,T_,T_,F_,F_,T_,T_,F_,F_,T_,T_,F_,F_,T_,T_,F_,F_,F_,F_,F_] (fun s_ => [(49, s_)]) (fun s_ w' => (w'.cell? ⟨gb498, 0, none⟩ = some (.int .i64 a0_0) ∧ w'.cell? ⟨gb498, 1, none⟩ = some (.int .i64 a0_1) ∧ w'.cell? ⟨gb498, 2, none⟩ = some (.int .i64 a0_2) ∧ w'.cell? ⟨gb498, 3, none⟩ = some (.int .i64 a0_3) ∧ w'.cell? ⟨gb498, 4, none⟩ = some (.int .i64 a0_4)) ∧ (Kd.R (Kd.int .u8) 5 w' w.heap.size (fun _ => True) s_ y500) ∧ (w'.heap[gb498]? = some (.cells #[.int .i64 a0_0, .int .i64 a0_1, .int .i64 a0_2, .int .i64 a0_3, .int .i64 a0_4] 53 (0, 0))) ∧ (Below w.heap.size w w')) ?_ ?_
                        rotate_left
                        ·intro hJ3
                         refine join_ (σ := Unit) 13 #[T_,T_,T_,F_,F_,F_,T_,T_,T_,F_,T_,T_,F_,F_,T_,T_,F_,F_,T_,T_,F_,F_,F_,F_,F_] (fun s_ => [(54, .string t503)]) (fun s_ w' => (w'.cell? ⟨gb498, 0, none⟩ = some (.int .i64 a0_0) ∧ w'.cell? ⟨gb498, 1, none⟩ = some (.int .i64 a0_1) ∧ w'.cell? ⟨gb498, 2, none⟩ = some (.int .i64 a0_2) ∧ w'.cell? ⟨gb498, 3, none⟩ = some (.int .i64 a0_3) ∧ w'.cell? ⟨gb498, 4, none⟩ = some (.int .i64 a0_4)) ∧ (w'.heap[gb498]? = some (.cells #[.int .i64 a0_0, .int .i64 a0_1, .int .i64 a0_2, .int .i64 a0_3, .int .i64 a0_4] 53 (0, 0))) ∧ (Below w.heap.size w w')) ?_ ?_
                         rotate_left
                         ·intro hJ8
                          refine two_ (i := 3) (j := 8) (Ni := some 49) (Nj := some 54) #[T_,T_,T_,T_,F_,F_,T_,T_,F_,F_,T_,T_,F_,F_,T_,T_,F_,F_,T_,T_,F_,F_,F_,F_,F_] #[T_,T_,T_,F_,F_,F_,T_,T_,T_,F_,T_,T_,F_,F_,T_,T_,F_,F_,T_,T_,F_,F_,F_,F_,F_] rfl rfl rfl rfl (two_of HT_.out (by kernel_rfl)) (by decide) (by decide) (fun K hK => ?_) (fun K hK => ?_)
                          ·skip
                           refine Kd.R_lit_step (Kd.int .u8) _ 5 ?hg (N := 49) ?hd (xs := ([(a0_0) % 256] : List Int)) (inner := [.int .u8 ((a0_0) % 256)]) (ok := fun _ => True) (okp := fun _ => True) ?hr ?hp (fun _ hk => hk) trivial (Below.refl _ _) (Nat.le_refl _) (by simp) ?_; (case hd => rfl); (case hg => rfl); (case hr => first | (go_simp; done) | (go_simp; rfl)); (case hp => exact (Reps.one (show Kd.M (Kd.int .u8) _ _ _ ((a0_0) % 256) [.int .u8 ((a0_0) % 256)] from rfl) (Reps.none _ _)))
                           intro v501 w35 ho36 hb hg_ hnew_
                           clear hg_ hnew_
                           (first | rw [← Ny500.out] at ho36 | (simp only [Int.reduceToNat] at ho36; rw [← Ny500.out] at ho36))
                           have HO502 := Aside0.mk (Kd.R_lower ho36 (below_size qH))
                           replace BK498 := wB BK498 hb
                           replace HB := wH hb
                           clear hb ho36
                           refine hK.out _ _ ⟨c0_ BK498, c1_ BK498, c2_ BK498, c3_ BK498, c4_ BK498⟩ (fun hHeld => ?_)
                           clear hK K
                           refine nS (some 49) ?_
                           exact norm_ (nP) (hJ3 (v501) _ ⟨hHeld, (qR HO502.out), (qB BK498), qH⟩)
                          ·skip
                           refine gO Try.func61 #[.int .i64 a0_1] ?_
                           with_reducible refine (armadaref03_four.calls a0_1 t503 _ A25.out).mono ?_
                           rintro e w35 ⟨rfl, hb⟩
                           refine ⟨_, rfl, ?_⟩
                           have hz_ := zqA HB hb
                           replace hb := below_step hz_ hb
                           replace BK498 := zB BK498 hb
                           replace HB := zH HB hb
                           clear hz_
                           (try clear hb)
                           (try clear hb2)
                           (try clear hk)
                           (try clear hi)
                           refine hK.out _ _ ⟨c0_ BK498, c1_ BK498, c2_ BK498, c3_ BK498, c4_ BK498⟩ (fun hHeld => ?_)
                           clear hK K
                           refine nS (some 54) ?_
                           exact norm_ (nP) (hJ8 () _ ⟨hHeld, (qB BK498), qH⟩)
                         ·skip
                          rintro _ w36 ⟨hS_, h0_, h1_⟩
                          have n0_ : Aside0 (w36.heap[gb498]? = some (.cells #[.int .i64 a0_0, .int .i64 a0_1, .int .i64 a0_2, .int .i64 a0_3, .int .i64 a0_4] 53 (0, 0))) := ⟨h0_⟩
                          have n1_ : Aside0 (Below w.heap.size w w36) := ⟨h1_⟩
                          clear BK498
                          clear HB
                          clear h0_ h1_
                          have BK498 := n0_
                          have HB := n1_
                          clear n0_ n1_
                          have hHeld : w36.cell? ⟨gb498, 0, none⟩ = some (.int .i64 a0_0) ∧ w36.cell? ⟨gb498, 1, none⟩ = some (.int .i64 a0_1) ∧ w36.cell? ⟨gb498, 2, none⟩ = some (.int .i64 a0_2) ∧ w36.cell? ⟨gb498, 3, none⟩ = some (.int .i64 a0_3) ∧ w36.cell? ⟨gb498, 4, none⟩ = some (.int .i64 a0_4) := hS_
                          refine nA ?_
                          refine two_ (i := 3) (j := 12) (Ni := some 49) (Nj := some 58) #[T_,T_,T_,T_,F_,F_,T_,T_,T_,F_,T_,T_,F_,F_,T_,T_,F_,F_,T_,T_,F_,F_,F_,F_,F_] #[T_,T_,T_,F_,F_,F_,T_,T_,T_,F_,T_,T_,T_,F_,T_,T_,F_,F_,T_,T_,F_,F_,F_,F_,F_] rfl rfl rfl rfl (two_of HT_.out (by kernel_rfl)) (by decide) (by decide) (fun K hK => ?_) (fun K hK => ?_)
                          ·skip
                           refine Kd.R_lit_step (Kd.int .u8) _ 5 ?hg (N := 49) ?hd (xs := ([(a0_0) % 256] : List Int)) (inner := [.int .u8 ((a0_0) % 256)]) (ok := fun _ => True) (okp := fun _ => True) ?hr ?hp (fun _ hk => hk) trivial (Below.refl _ _) (Nat.le_refl _) (by simp) ?_; (case hd => rfl); (case hg => rfl); (case hr => first | (go_simp; done) | (go_simp; rfl)); (case hp => exact (Reps.one (show Kd.M (Kd.int .u8) _ _ _ ((a0_0) % 256) [.int .u8 ((a0_0) % 256)] from rfl) (Reps.none _ _)))
                           intro v501 w37 ho38 hb hg_ hnew_
                           clear hg_ hnew_
                           (first | rw [← Ny500.out] at ho38 | (simp only [Int.reduceToNat] at ho38; rw [← Ny500.out] at ho38))
                           have HO502 := Aside0.mk (Kd.R_lower ho38 (below_size qH))
                           replace BK498 := wB BK498 hb
                           replace HB := wH hb
                           clear hb ho38
                           refine hK.out _ _ ⟨c0_ BK498, c1_ BK498, c2_ BK498, c3_ BK498, c4_ BK498⟩ (fun hHeld => ?_)
                           clear hK K
                           refine nS (some 49) ?_
                           exact norm_ (nP) (hJ3_8 (v501) _ ⟨hHeld, (qR HO502.out), (qB BK498), qH⟩)
                          ·skip
                           refine gO Try.func61 #[.int .i64 a0_2] ?_
                           with_reducible refine (armadaref03_four.calls a0_2 t504 _ A27.out).mono ?_
                           rintro e w37 ⟨rfl, hb⟩
                           refine ⟨_, rfl, ?_⟩
                           have hz_ := zqA HB hb
                           replace hb := below_step hz_ hb
                           replace BK498 := zB BK498 hb
                           replace HB := zH HB hb
                           clear hz_
                           (try clear hb)
                           (try clear hb2)
                           (try clear hk)
                           (try clear hi)
                           refine hK.out _ _ ⟨c0_ BK498, c1_ BK498, c2_ BK498, c3_ BK498, c4_ BK498⟩ (fun hHeld => ?_)
                           clear hK K
                           refine nS (some 58) ?_
                           exact norm_ (nP) (hJ8_12 () _ ⟨hHeld, (qB BK498), qH⟩)
                        ·skip
                         rintro v501 w37 ⟨hS_, h0_, h1_, h2_⟩
                         have n0_ : Aside0 (Kd.R (Kd.int .u8) 5 w37 w.heap.size (fun _ => True) v501 y500) := ⟨h0_⟩
                         have n1_ : Aside0 (w37.heap[gb498]? = some (.cells #[.int .i64 a0_0, .int .i64 a0_1, .int .i64 a0_2, .int .i64 a0_3, .int .i64 a0_4] 53 (0, 0))) := ⟨h1_⟩
                         have n2_ : Aside0 (Below w.heap.size w w37) := ⟨h2_⟩
                         clear BK498
                         clear HB
                         clear h0_ h1_ h2_
                         have HO502 := n0_
                         have BK498 := n1_
                         have HB := n2_
                         clear n0_ n1_ n2_
                         have hHeld : w37.cell? ⟨gb498, 0, none⟩ = some (.int .i64 a0_0) ∧ w37.cell? ⟨gb498, 1, none⟩ = some (.int .i64 a0_1) ∧ w37.cell? ⟨gb498, 2, none⟩ = some (.int .i64 a0_2) ∧ w37.cell? ⟨gb498, 3, none⟩ = some (.int .i64 a0_3) ∧ w37.cell? ⟨gb498, 4, none⟩ = some (.int .i64 a0_4) := hS_
                         refine nA ?_
                         refine two_ (i := 4) (j := 8) (Ni := some 50) (Nj := some 54) #[T_,T_,T_,T_,T_,F_,T_,T_,F_,F_,T_,T_,F_,F_,T_,T_,F_,F_,T_,T_,F_,F_,F_,F_,F_] #[T_,T_,T_,T_,F_,F_,T_,T_,T_,F_,T_,T_,F_,F_,T_,T_,F_,F_,T_,T_,F_,F_,F_,F_,F_] rfl rfl rfl rfl (two_of HT_.out (by kernel_rfl)) (by decide) (by decide) (fun K hK => ?_) (fun K hK => ?_)
                         ·skip
                          have hcv38 := own_string (P := Try.prog) Try.underlying100 Try.underlying5 Try.underlying9 (Kd.own_of_R HO502.out)
                          refine value_ (w1 := ?_) (v := ?_) (by rfl) rfl ?_ ?_
                          rotate_left 2
                          ·go_simp
                           constructor
                           ·rfl
                           ·rfl
                          clear hcv38
                          refine hK.out _ _ ⟨c0_ BK498, c1_ BK498, c2_ BK498, c3_ BK498, c4_ BK498⟩ (fun hHeld => ?_)
                          clear hK K
                          refine nS (some 50) ?_
                          refine pU 5 (some 51) #[T_,T_,T_,T_,T_,T_,T_,T_,F_,F_,T_,T_,F_,F_,T_,T_,F_,F_,T_,T_,F_,F_,F_,F_,F_] HT_ ?_
                          exact norm_ (nP) (hJ3_4 (v501) _ ⟨hHeld, (qR HO502.out), (qB BK498), qH⟩)
                         ·skip
                          refine gO Try.func61 #[.int .i64 a0_1] ?_
                          with_reducible refine (armadaref03_four.calls a0_1 t503 _ A25.out).mono ?_
                          rintro e w38 ⟨rfl, hb⟩
                          refine ⟨_, rfl, ?_⟩
                          have hz_ := zqA HB hb
                          replace hb := below_step hz_ hb
                          replace HO502 := zR HO502 hb
                          replace BK498 := zB BK498 hb
                          replace HB := zH HB hb
                          clear hz_
                          (try clear hb)
                          (try clear hb2)
                          (try clear hk)
                          (try clear hi)
                          refine hK.out _ _ ⟨c0_ BK498, c1_ BK498, c2_ BK498, c3_ BK498, c4_ BK498⟩ (fun hHeld => ?_)
                          clear hK K
                          refine nS (some 54) ?_
                          exact norm_ (nP) (hJ3_8 (v501) _ ⟨hHeld, (qR HO502.out), (qB BK498), qH⟩)
                       ·skip
                        rintro _ w37 ⟨hS_, h0_, h1_⟩
                        have n0_ : Aside0 (w37.heap[gb498]? = some (.cells #[.int .i64 a0_0, .int .i64 a0_1, .int .i64 a0_2, .int .i64 a0_3, .int .i64 a0_4] 53 (0, 0))) := ⟨h0_⟩
                        have n1_ : Aside0 (Below w.heap.size w w37) := ⟨h1_⟩
                        clear BK498
                        clear HB
                        clear h0_ h1_
                        have BK498 := n0_
                        have HB := n1_
                        clear n0_ n1_
                        have hHeld : w37.cell? ⟨gb498, 0, none⟩ = some (.int .i64 a0_0) ∧ w37.cell? ⟨gb498, 1, none⟩ = some (.int .i64 a0_1) ∧ w37.cell? ⟨gb498, 2, none⟩ = some (.int .i64 a0_2) ∧ w37.cell? ⟨gb498, 3, none⟩ = some (.int .i64 a0_3) ∧ w37.cell? ⟨gb498, 4, none⟩ = some (.int .i64 a0_4) := hS_
                        refine nA ?_
                        refine two_ (i := 3) (j := 16) (Ni := some 49) (Nj := some 62) #[T_,T_,T_,T_,F_,F_,T_,T_,T_,F_,T_,T_,T_,F_,T_,T_,F_,F_,T_,T_,F_,F_,F_,F_,F_] #[T_,T_,T_,F_,F_,F_,T_,T_,T_,F_,T_,T_,T_,F_,T_,T_,T_,F_,T_,T_,F_,F_,F_,F_,F_] rfl rfl rfl rfl (two_of HT_.out (by kernel_rfl)) (by decide) (by decide) (fun K hK => ?_) (fun K hK => ?_)
                        ·skip
                         refine Kd.R_lit_step (Kd.int .u8) _ 5 ?hg (N := 49) ?hd (xs := ([(a0_0) % 256] : List Int)) (inner := [.int .u8 ((a0_0) % 256)]) (ok := fun _ => True) (okp := fun _ => True) ?hr ?hp (fun _ hk => hk) trivial (Below.refl _ _) (Nat.le_refl _) (by simp) ?_; (case hd => rfl); (case hg => rfl); (case hr => first | (go_simp; done) | (go_simp; rfl)); (case hp => exact (Reps.one (show Kd.M (Kd.int .u8) _ _ _ ((a0_0) % 256) [.int .u8 ((a0_0) % 256)] from rfl) (Reps.none _ _)))
                         intro v501 w38 ho39 hb hg_ hnew_
                         clear hg_ hnew_
                         (first | rw [← Ny500.out] at ho39 | (simp only [Int.reduceToNat] at ho39; rw [← Ny500.out] at ho39))
                         have HO502 := Aside0.mk (Kd.R_lower ho39 (below_size qH))
                         replace BK498 := wB BK498 hb
                         replace HB := wH hb
                         clear hb ho39
                         refine hK.out _ _ ⟨c0_ BK498, c1_ BK498, c2_ BK498, c3_ BK498, c4_ BK498⟩ (fun hHeld => ?_)
                         clear hK K
                         refine nS (some 49) ?_
                         exact norm_ (nP) (hJ3_8_12 (v501) _ ⟨hHeld, (qR HO502.out), (qB BK498), qH⟩)
                        ·skip
                         refine gO Try.func61 #[.int .i64 a0_3] ?_
                         with_reducible refine (armadaref03_four.calls a0_3 t505 _ A29.out).mono ?_
                         rintro e w38 ⟨rfl, hb⟩
                         refine ⟨_, rfl, ?_⟩
                         have hz_ := zqA HB hb
                         replace hb := below_step hz_ hb
                         replace BK498 := zB BK498 hb
                         replace HB := zH HB hb
                         clear hz_
                         (try clear hb)
                         (try clear hb2)
                         (try clear hk)
                         (try clear hi)
                         refine hK.out _ _ ⟨c0_ BK498, c1_ BK498, c2_ BK498, c3_ BK498, c4_ BK498⟩ (fun hHeld => ?_)
                         clear hK K
                         refine nS (some 62) ?_
                         exact norm_ (nP) (hJ8_12_16 () _ ⟨hHeld, (qB BK498), qH⟩)
                      ·skip
                       rintro v501 w38 ⟨hS_, h0_, h1_, h2_⟩
                       have n0_ : Aside0 (Kd.R (Kd.int .u8) 5 w38 w.heap.size (fun _ => True) v501 y500) := ⟨h0_⟩
                       have n1_ : Aside0 (w38.heap[gb498]? = some (.cells #[.int .i64 a0_0, .int .i64 a0_1, .int .i64 a0_2, .int .i64 a0_3, .int .i64 a0_4] 53 (0, 0))) := ⟨h1_⟩
                       have n2_ : Aside0 (Below w.heap.size w w38) := ⟨h2_⟩
                       clear BK498
                       clear HB
                       clear h0_ h1_ h2_
                       have HO502 := n0_
                       have BK498 := n1_
                       have HB := n2_
                       clear n0_ n1_ n2_
                       have hHeld : w38.cell? ⟨gb498, 0, none⟩ = some (.int .i64 a0_0) ∧ w38.cell? ⟨gb498, 1, none⟩ = some (.int .i64 a0_1) ∧ w38.cell? ⟨gb498, 2, none⟩ = some (.int .i64 a0_2) ∧ w38.cell? ⟨gb498, 3, none⟩ = some (.int .i64 a0_3) ∧ w38.cell? ⟨gb498, 4, none⟩ = some (.int .i64 a0_4) := hS_
                       refine nA ?_
                       refine two_ (i := 4) (j := 12) (Ni := some 50) (Nj := some 58) #[T_,T_,T_,T_,T_,F_,T_,T_,T_,F_,T_,T_,F_,F_,T_,T_,F_,F_,T_,T_,F_,F_,F_,F_,F_] #[T_,T_,T_,T_,F_,F_,T_,T_,T_,F_,T_,T_,T_,F_,T_,T_,F_,F_,T_,T_,F_,F_,F_,F_,F_] rfl rfl rfl rfl (two_of HT_.out (by kernel_rfl)) (by decide) (by decide) (fun K hK => ?_) (fun K hK => ?_)
                       ·skip
                        have hcv39 := own_string (P := Try.prog) Try.underlying100 Try.underlying5 Try.underlying9 (Kd.own_of_R HO502.out)
                        refine value_ (w1 := ?_) (v := ?_) (by rfl) rfl ?_ ?_
                        rotate_left 2
                        ·go_simp
                         constructor
                         ·rfl
                         ·rfl
                        clear hcv39
                        refine hK.out _ _ ⟨c0_ BK498, c1_ BK498, c2_ BK498, c3_ BK498, c4_ BK498⟩ (fun hHeld => ?_)
                        clear hK K
                        refine nS (some 50) ?_
                        refine pU 5 (some 51) #[T_,T_,T_,T_,T_,T_,T_,T_,T_,F_,T_,T_,F_,F_,T_,T_,F_,F_,T_,T_,F_,F_,F_,F_,F_] HT_ ?_
                        refine pU 9 (some 55) #[T_,T_,T_,T_,T_,T_,T_,T_,T_,T_,T_,T_,F_,F_,T_,T_,F_,F_,T_,T_,F_,F_,F_,F_,F_] HT_ ?_
                        exact norm_ (nP) (hJ3_4_8 (v501) _ ⟨hHeld, (qR HO502.out), (qB BK498), qH⟩)
                       ·skip
                        refine gO Try.func61 #[.int .i64 a0_2] ?_
                        with_reducible refine (armadaref03_four.calls a0_2 t504 _ A27.out).mono ?_
                        rintro e w39 ⟨rfl, hb⟩
                        refine ⟨_, rfl, ?_⟩
                        have hz_ := zqA HB hb
                        replace hb := below_step hz_ hb
                        replace HO502 := zR HO502 hb
                        replace BK498 := zB BK498 hb
                        replace HB := zH HB hb
                        clear hz_
                        (try clear hb)
                        (try clear hb2)
                        (try clear hk)
                        (try clear hi)
                        refine hK.out _ _ ⟨c0_ BK498, c1_ BK498, c2_ BK498, c3_ BK498, c4_ BK498⟩ (fun hHeld => ?_)
                        clear hK K
                        refine nS (some 58) ?_
                        exact norm_ (nP) (hJ3_8_12 (v501) _ ⟨hHeld, (qR HO502.out), (qB BK498), qH⟩)
                     ·skip
                      rintro v501 w38 ⟨hS_, h0_, h1_, h2_⟩
                      have n0_ : Aside0 (Kd.R (Kd.int .u8) 5 w38 w.heap.size (fun _ => True) v501 y500) := ⟨h0_⟩
                      have n1_ : Aside0 (w38.heap[gb498]? = some (.cells #[.int .i64 a0_0, .int .i64 a0_1, .int .i64 a0_2, .int .i64 a0_3, .int .i64 a0_4] 53 (0, 0))) := ⟨h1_⟩
                      have n2_ : Aside0 (Below w.heap.size w w38) := ⟨h2_⟩
                      clear BK498
                      clear HB
                      clear h0_ h1_ h2_
                      have HO502 := n0_
                      have BK498 := n1_
                      have HB := n2_
                      clear n0_ n1_ n2_
                      have hHeld : w38.cell? ⟨gb498, 0, none⟩ = some (.int .i64 a0_0) ∧ w38.cell? ⟨gb498, 1, none⟩ = some (.int .i64 a0_1) ∧ w38.cell? ⟨gb498, 2, none⟩ = some (.int .i64 a0_2) ∧ w38.cell? ⟨gb498, 3, none⟩ = some (.int .i64 a0_3) ∧ w38.cell? ⟨gb498, 4, none⟩ = some (.int .i64 a0_4) := hS_
                      refine nA ?_
                      refine oN 8 (some 54) #[T_,T_,T_,T_,T_,T_,T_,T_,T_,F_,T_,T_,F_,F_,T_,T_,F_,F_,T_,T_,F_,F_,F_,F_,F_] HT_ (fun K hK => ?_)
                      refine gO Try.func61 #[.int .i64 a0_1] ?_
                      with_reducible refine (armadaref03_four.calls a0_1 t503 _ A25.out).mono ?_
                      rintro e w39 ⟨rfl, hb⟩
                      refine ⟨_, rfl, ?_⟩
                      have hz_ := zqA HB hb
                      replace hb := below_step hz_ hb
                      replace HO502 := zR HO502 hb
                      replace BK498 := zB BK498 hb
                      replace HB := zH HB hb
                      clear hz_
                      (try clear hb)
                      (try clear hb2)
                      (try clear hk)
                      (try clear hi)
                      refine hK.out _ _ ⟨c0_ BK498, c1_ BK498, c2_ BK498, c3_ BK498, c4_ BK498⟩ (fun hHeld => ?_)
                      clear hK K
                      refine nS (some 54) ?_
                      refine pU 9 (some 55) #[T_,T_,T_,T_,T_,T_,T_,T_,T_,T_,T_,T_,F_,F_,T_,T_,F_,F_,T_,T_,F_,F_,F_,F_,F_] HT_ ?_
                      exact norm_ (nP) (hJ3_4_8 (v501) _ ⟨hHeld, (qR HO502.out), (qB BK498), qH⟩)
                    ·skip
                     rintro _ w38 ⟨hS_, h0_, h1_⟩
                     have n0_ : Aside0 (w38.heap[gb498]? = some (.cells #[.int .i64 a0_0, .int .i64 a0_1, .int .i64 a0_2, .int .i64 a0_3, .int .i64 a0_4] 53 (0, 0))) := ⟨h0_⟩
                     have n1_ : Aside0 (Below w.heap.size w w38) := ⟨h1_⟩
                     clear BK498
                     clear HB
                     clear h0_ h1_
                     have BK498 := n0_
                     have HB := n1_
                     clear n0_ n1_
                     have hHeld : w38.cell? ⟨gb498, 0, none⟩ = some (.int .i64 a0_0) ∧ w38.cell? ⟨gb498, 1, none⟩ = some (.int .i64 a0_1) ∧ w38.cell? ⟨gb498, 2, none⟩ = some (.int .i64 a0_2) ∧ w38.cell? ⟨gb498, 3, none⟩ = some (.int .i64 a0_3) ∧ w38.cell? ⟨gb498, 4, none⟩ = some (.int .i64 a0_4) := hS_
                     refine nA ?_
                     refine two_ (i := 3) (j := 20) (Ni := some 49) (Nj := some 66) #[T_,T_,T_,T_,F_,F_,T_,T_,T_,F_,T_,T_,T_,F_,T_,T_,T_,F_,T_,T_,F_,F_,F_,F_,F_] #[T_,T_,T_,F_,F_,F_,T_,T_,T_,F_,T_,T_,T_,F_,T_,T_,T_,F_,T_,T_,T_,F_,F_,F_,F_] rfl rfl rfl rfl (two_of HT_.out (by kernel_rfl)) (by decide) (by decide) (fun K hK => ?_) (fun K hK => ?_)
                     ·skip
                      refine Kd.R_lit_step (Kd.int .u8) _ 5 ?hg (N := 49) ?hd (xs := ([(a0_0) % 256] : List Int)) (inner := [.int .u8 ((a0_0) % 256)]) (ok := fun _ => True) (okp := fun _ => True) ?hr ?hp (fun _ hk => hk) trivial (Below.refl _ _) (Nat.le_refl _) (by simp) ?_; (case hd => rfl); (case hg => rfl); (case hr => first | (go_simp; done) | (go_simp; rfl)); (case hp => exact (Reps.one (show Kd.M (Kd.int .u8) _ _ _ ((a0_0) % 256) [.int .u8 ((a0_0) % 256)] from rfl) (Reps.none _ _)))
                      intro v501 w39 ho40 hb hg_ hnew_
                      clear hg_ hnew_
                      (first | rw [← Ny500.out] at ho40 | (simp only [Int.reduceToNat] at ho40; rw [← Ny500.out] at ho40))
                      have HO502 := Aside0.mk (Kd.R_lower ho40 (below_size qH))
                      replace BK498 := wB BK498 hb
                      replace HB := wH hb
                      clear hb ho40
                      refine hK.out _ _ ⟨c0_ BK498, c1_ BK498, c2_ BK498, c3_ BK498, c4_ BK498⟩ (fun hHeld => ?_)
                      clear hK K
                      refine nS (some 49) ?_
                      exact norm_ (nP) (hJ3_8_12_16 (v501) _ ⟨hHeld, (qR HO502.out), (qB BK498), qH⟩)
                     ·skip
                      refine gO Try.func61 #[.int .i64 a0_4] ?_
                      with_reducible refine (armadaref03_four.calls a0_4 t506 _ A31.out).mono ?_
                      rintro e w39 ⟨rfl, hb⟩
                      refine ⟨_, rfl, ?_⟩
                      have hz_ := zqA HB hb
                      replace hb := below_step hz_ hb
                      replace BK498 := zB BK498 hb
                      replace HB := zH HB hb
                      clear hz_
                      (try clear hb)
                      (try clear hb2)
                      (try clear hk)
                      (try clear hi)
                      refine hK.out _ _ ⟨c0_ BK498, c1_ BK498, c2_ BK498, c3_ BK498, c4_ BK498⟩ (fun hHeld => ?_)
                      clear hK K
                      refine nS (some 66) ?_
                      exact norm_ (nP) (hJ8_12_16_20 () _ ⟨hHeld, (qB BK498), qH⟩)
                   ·skip
                    rintro v501 w39 ⟨hS_, h0_, h1_, h2_⟩
                    have n0_ : Aside0 (Kd.R (Kd.int .u8) 5 w39 w.heap.size (fun _ => True) v501 y500) := ⟨h0_⟩
                    have n1_ : Aside0 (w39.heap[gb498]? = some (.cells #[.int .i64 a0_0, .int .i64 a0_1, .int .i64 a0_2, .int .i64 a0_3, .int .i64 a0_4] 53 (0, 0))) := ⟨h1_⟩
                    have n2_ : Aside0 (Below w.heap.size w w39) := ⟨h2_⟩
                    clear BK498
                    clear HB
                    clear h0_ h1_ h2_
                    have HO502 := n0_
                    have BK498 := n1_
                    have HB := n2_
                    clear n0_ n1_ n2_
                    have hHeld : w39.cell? ⟨gb498, 0, none⟩ = some (.int .i64 a0_0) ∧ w39.cell? ⟨gb498, 1, none⟩ = some (.int .i64 a0_1) ∧ w39.cell? ⟨gb498, 2, none⟩ = some (.int .i64 a0_2) ∧ w39.cell? ⟨gb498, 3, none⟩ = some (.int .i64 a0_3) ∧ w39.cell? ⟨gb498, 4, none⟩ = some (.int .i64 a0_4) := hS_
                    refine nA ?_
                    refine two_ (i := 4) (j := 16) (Ni := some 50) (Nj := some 62) #[T_,T_,T_,T_,T_,F_,T_,T_,T_,F_,T_,T_,T_,F_,T_,T_,F_,F_,T_,T_,F_,F_,F_,F_,F_] #[T_,T_,T_,T_,F_,F_,T_,T_,T_,F_,T_,T_,T_,F_,T_,T_,T_,F_,T_,T_,F_,F_,F_,F_,F_] rfl rfl rfl rfl (two_of HT_.out (by kernel_rfl)) (by decide) (by decide) (fun K hK => ?_) (fun K hK => ?_)
                    ·skip
                     have hcv40 := own_string (P := Try.prog) Try.underlying100 Try.underlying5 Try.underlying9 (Kd.own_of_R HO502.out)
                     refine value_ (w1 := ?_) (v := ?_) (by rfl) rfl ?_ ?_
                     rotate_left 2
                     ·go_simp
                      constructor
                      ·rfl
                      ·rfl
                     clear hcv40
                     refine hK.out _ _ ⟨c0_ BK498, c1_ BK498, c2_ BK498, c3_ BK498, c4_ BK498⟩ (fun hHeld => ?_)
                     clear hK K
                     refine nS (some 50) ?_
                     refine pU 5 (some 51) #[T_,T_,T_,T_,T_,T_,T_,T_,T_,F_,T_,T_,T_,F_,T_,T_,F_,F_,T_,T_,F_,F_,F_,F_,F_] HT_ ?_
                     refine pU 9 (some 55) #[T_,T_,T_,T_,T_,T_,T_,T_,T_,T_,T_,T_,T_,F_,T_,T_,F_,F_,T_,T_,F_,F_,F_,F_,F_] HT_ ?_
                     refine pU 13 (some 59) #[T_,T_,T_,T_,T_,T_,T_,T_,T_,T_,T_,T_,T_,T_,T_,T_,F_,F_,T_,T_,F_,F_,F_,F_,F_] HT_ ?_
                     exact norm_ (nP) (hJ3_4_8_12 (v501) _ ⟨hHeld, (qR HO502.out), (qB BK498), qH⟩)
                    ·skip
                     refine gO Try.func61 #[.int .i64 a0_3] ?_
                     with_reducible refine (armadaref03_four.calls a0_3 t505 _ A29.out).mono ?_
                     rintro e w40 ⟨rfl, hb⟩
                     refine ⟨_, rfl, ?_⟩
                     have hz_ := zqA HB hb
                     replace hb := below_step hz_ hb
                     replace HO502 := zR HO502 hb
                     replace BK498 := zB BK498 hb
                     replace HB := zH HB hb
                     clear hz_
                     (try clear hb)
                     (try clear hb2)
                     (try clear hk)
                     (try clear hi)
                     refine hK.out _ _ ⟨c0_ BK498, c1_ BK498, c2_ BK498, c3_ BK498, c4_ BK498⟩ (fun hHeld => ?_)
                     clear hK K
                     refine nS (some 62) ?_
                     exact norm_ (nP) (hJ3_8_12_16 (v501) _ ⟨hHeld, (qR HO502.out), (qB BK498), qH⟩)
                  ·skip
                   rintro v501 w39 ⟨hS_, h0_, h1_, h2_⟩
                   have n0_ : Aside0 (Kd.R (Kd.int .u8) 5 w39 w.heap.size (fun _ => True) v501 y500) := ⟨h0_⟩
                   have n1_ : Aside0 (w39.heap[gb498]? = some (.cells #[.int .i64 a0_0, .int .i64 a0_1, .int .i64 a0_2, .int .i64 a0_3, .int .i64 a0_4] 53 (0, 0))) := ⟨h1_⟩
                   have n2_ : Aside0 (Below w.heap.size w w39) := ⟨h2_⟩
                   clear BK498
                   clear HB
                   clear h0_ h1_ h2_
                   have HO502 := n0_
                   have BK498 := n1_
                   have HB := n2_
                   clear n0_ n1_ n2_
                   have hHeld : w39.cell? ⟨gb498, 0, none⟩ = some (.int .i64 a0_0) ∧ w39.cell? ⟨gb498, 1, none⟩ = some (.int .i64 a0_1) ∧ w39.cell? ⟨gb498, 2, none⟩ = some (.int .i64 a0_2) ∧ w39.cell? ⟨gb498, 3, none⟩ = some (.int .i64 a0_3) ∧ w39.cell? ⟨gb498, 4, none⟩ = some (.int .i64 a0_4) := hS_
                   refine nA ?_
                   refine oN 12 (some 58) #[T_,T_,T_,T_,T_,T_,T_,T_,T_,T_,T_,T_,T_,F_,T_,T_,F_,F_,T_,T_,F_,F_,F_,F_,F_] HT_ (fun K hK => ?_)
                   refine gO Try.func61 #[.int .i64 a0_2] ?_
                   with_reducible refine (armadaref03_four.calls a0_2 t504 _ A27.out).mono ?_
                   rintro e w40 ⟨rfl, hb⟩
                   refine ⟨_, rfl, ?_⟩
                   have hz_ := zqA HB hb
                   replace hb := below_step hz_ hb
                   replace HO502 := zR HO502 hb
                   replace BK498 := zB BK498 hb
                   replace HB := zH HB hb
                   clear hz_
                   (try clear hb)
                   (try clear hb2)
                   (try clear hk)
                   (try clear hi)
                   refine hK.out _ _ ⟨c0_ BK498, c1_ BK498, c2_ BK498, c3_ BK498, c4_ BK498⟩ (fun hHeld => ?_)
                   clear hK K
                   refine nS (some 58) ?_
                   refine pU 13 (some 59) #[T_,T_,T_,T_,T_,T_,T_,T_,T_,T_,T_,T_,T_,T_,T_,T_,F_,F_,T_,T_,F_,F_,F_,F_,F_] HT_ ?_
                   exact norm_ (nP) (hJ3_4_8_12 (v501) _ ⟨hHeld, (qR HO502.out), (qB BK498), qH⟩)
                 ·skip
                  rintro _ w39 ⟨hS_, h0_, h1_⟩
                  have n0_ : Aside0 (w39.heap[gb498]? = some (.cells #[.int .i64 a0_0, .int .i64 a0_1, .int .i64 a0_2, .int .i64 a0_3, .int .i64 a0_4] 53 (0, 0))) := ⟨h0_⟩
                  have n1_ : Aside0 (Below w.heap.size w w39) := ⟨h1_⟩
                  clear BK498
                  clear HB
                  clear h0_ h1_
                  have BK498 := n0_
                  have HB := n1_
                  clear n0_ n1_
                  have hHeld : w39.cell? ⟨gb498, 0, none⟩ = some (.int .i64 a0_0) ∧ w39.cell? ⟨gb498, 1, none⟩ = some (.int .i64 a0_1) ∧ w39.cell? ⟨gb498, 2, none⟩ = some (.int .i64 a0_2) ∧ w39.cell? ⟨gb498, 3, none⟩ = some (.int .i64 a0_3) ∧ w39.cell? ⟨gb498, 4, none⟩ = some (.int .i64 a0_4) := hS_
                  refine nA ?_
                  refine oN 3 (some 49) #[T_,T_,T_,T_,F_,F_,T_,T_,T_,F_,T_,T_,T_,F_,T_,T_,T_,F_,T_,T_,T_,F_,F_,F_,F_] HT_ (fun K hK => ?_)
                  refine Kd.R_lit_step (Kd.int .u8) _ 5 ?hg (N := 49) ?hd (xs := ([(a0_0) % 256] : List Int)) (inner := [.int .u8 ((a0_0) % 256)]) (ok := fun _ => True) (okp := fun _ => True) ?hr ?hp (fun _ hk => hk) trivial (Below.refl _ _) (Nat.le_refl _) (by simp) ?_; (case hd => rfl); (case hg => rfl); (case hr => first | (go_simp; done) | (go_simp; rfl)); (case hp => exact (Reps.one (show Kd.M (Kd.int .u8) _ _ _ ((a0_0) % 256) [.int .u8 ((a0_0) % 256)] from rfl) (Reps.none _ _)))
                  intro v501 w40 ho41 hb hg_ hnew_
                  clear hg_ hnew_
                  (first | rw [← Ny500.out] at ho41 | (simp only [Int.reduceToNat] at ho41; rw [← Ny500.out] at ho41))
                  have HO502 := Aside0.mk (Kd.R_lower ho41 (below_size qH))
                  replace BK498 := wB BK498 hb
                  replace HB := wH hb
                  clear hb ho41
                  refine hK.out _ _ ⟨c0_ BK498, c1_ BK498, c2_ BK498, c3_ BK498, c4_ BK498⟩ (fun hHeld => ?_)
                  clear hK K
                  refine nS (some 49) ?_
                  exact norm_ (nP) (hJ3_8_12_16_20 (v501) _ ⟨hHeld, (qR HO502.out), (qB BK498), qH⟩)
                ·skip
                 rintro v501 w40 ⟨hS_, h0_, h1_, h2_⟩
                 have n0_ : Aside0 (Kd.R (Kd.int .u8) 5 w40 w.heap.size (fun _ => True) v501 y500) := ⟨h0_⟩
                 have n1_ : Aside0 (w40.heap[gb498]? = some (.cells #[.int .i64 a0_0, .int .i64 a0_1, .int .i64 a0_2, .int .i64 a0_3, .int .i64 a0_4] 53 (0, 0))) := ⟨h1_⟩
                 have n2_ : Aside0 (Below w.heap.size w w40) := ⟨h2_⟩
                 clear BK498
                 clear HB
                 clear h0_ h1_ h2_
                 have HO502 := n0_
                 have BK498 := n1_
                 have HB := n2_
                 clear n0_ n1_ n2_
                 have hHeld : w40.cell? ⟨gb498, 0, none⟩ = some (.int .i64 a0_0) ∧ w40.cell? ⟨gb498, 1, none⟩ = some (.int .i64 a0_1) ∧ w40.cell? ⟨gb498, 2, none⟩ = some (.int .i64 a0_2) ∧ w40.cell? ⟨gb498, 3, none⟩ = some (.int .i64 a0_3) ∧ w40.cell? ⟨gb498, 4, none⟩ = some (.int .i64 a0_4) := hS_
                 refine nA ?_
                 refine two_ (i := 4) (j := 20) (Ni := some 50) (Nj := some 66) #[T_,T_,T_,T_,T_,F_,T_,T_,T_,F_,T_,T_,T_,F_,T_,T_,T_,F_,T_,T_,F_,F_,F_,F_,F_] #[T_,T_,T_,T_,F_,F_,T_,T_,T_,F_,T_,T_,T_,F_,T_,T_,T_,F_,T_,T_,T_,F_,F_,F_,F_] rfl rfl rfl rfl (two_of HT_.out (by kernel_rfl)) (by decide) (by decide) (fun K hK => ?_) (fun K hK => ?_)
                 ·skip
                  have hcv41 := own_string (P := Try.prog) Try.underlying100 Try.underlying5 Try.underlying9 (Kd.own_of_R HO502.out)
                  refine value_ (w1 := ?_) (v := ?_) (by rfl) rfl ?_ ?_
                  rotate_left 2
                  ·go_simp
                   constructor
                   ·rfl
                   ·rfl
                  clear hcv41
                  refine hK.out _ _ ⟨c0_ BK498, c1_ BK498, c2_ BK498, c3_ BK498, c4_ BK498⟩ (fun hHeld => ?_)
                  clear hK K
                  refine nS (some 50) ?_
                  refine pU 5 (some 51) #[T_,T_,T_,T_,T_,T_,T_,T_,T_,F_,T_,T_,T_,F_,T_,T_,T_,F_,T_,T_,F_,F_,F_,F_,F_] HT_ ?_
                  refine pU 9 (some 55) #[T_,T_,T_,T_,T_,T_,T_,T_,T_,T_,T_,T_,T_,F_,T_,T_,T_,F_,T_,T_,F_,F_,F_,F_,F_] HT_ ?_
                  refine pU 13 (some 59) #[T_,T_,T_,T_,T_,T_,T_,T_,T_,T_,T_,T_,T_,T_,T_,T_,T_,F_,T_,T_,F_,F_,F_,F_,F_] HT_ ?_
                  refine pU 17 (some 63) #[T_,T_,T_,T_,T_,T_,T_,T_,T_,T_,T_,T_,T_,T_,T_,T_,T_,T_,T_,T_,F_,F_,F_,F_,F_] HT_ ?_
                  exact norm_ (nP) (hJ3_4_8_12_16 (v501) _ ⟨hHeld, (qR HO502.out), (qB BK498), qH⟩)
                 ·skip
                  refine gO Try.func61 #[.int .i64 a0_4] ?_
                  with_reducible refine (armadaref03_four.calls a0_4 t506 _ A31.out).mono ?_
                  rintro e w41 ⟨rfl, hb⟩
                  refine ⟨_, rfl, ?_⟩
                  have hz_ := zqA HB hb
                  replace hb := below_step hz_ hb
                  replace HO502 := zR HO502 hb
                  replace BK498 := zB BK498 hb
                  replace HB := zH HB hb
                  clear hz_
                  (try clear hb)
                  (try clear hb2)
                  (try clear hk)
                  (try clear hi)
                  refine hK.out _ _ ⟨c0_ BK498, c1_ BK498, c2_ BK498, c3_ BK498, c4_ BK498⟩ (fun hHeld => ?_)
                  clear hK K
                  refine nS (some 66) ?_
                  exact norm_ (nP) (hJ3_8_12_16_20 (v501) _ ⟨hHeld, (qR HO502.out), (qB BK498), qH⟩)
               ·skip
                rintro v501 w40 ⟨hS_, h0_, h1_, h2_⟩
                have n0_ : Aside0 (Kd.R (Kd.int .u8) 5 w40 w.heap.size (fun _ => True) v501 y500) := ⟨h0_⟩
                have n1_ : Aside0 (w40.heap[gb498]? = some (.cells #[.int .i64 a0_0, .int .i64 a0_1, .int .i64 a0_2, .int .i64 a0_3, .int .i64 a0_4] 53 (0, 0))) := ⟨h1_⟩
                have n2_ : Aside0 (Below w.heap.size w w40) := ⟨h2_⟩
                clear BK498
                clear HB
                clear h0_ h1_ h2_
                have HO502 := n0_
                have BK498 := n1_
                have HB := n2_
                clear n0_ n1_ n2_
                have hHeld : w40.cell? ⟨gb498, 0, none⟩ = some (.int .i64 a0_0) ∧ w40.cell? ⟨gb498, 1, none⟩ = some (.int .i64 a0_1) ∧ w40.cell? ⟨gb498, 2, none⟩ = some (.int .i64 a0_2) ∧ w40.cell? ⟨gb498, 3, none⟩ = some (.int .i64 a0_3) ∧ w40.cell? ⟨gb498, 4, none⟩ = some (.int .i64 a0_4) := hS_
                refine nA ?_
                refine oN 16 (some 62) #[T_,T_,T_,T_,T_,T_,T_,T_,T_,T_,T_,T_,T_,T_,T_,T_,T_,F_,T_,T_,F_,F_,F_,F_,F_] HT_ (fun K hK => ?_)
                refine gO Try.func61 #[.int .i64 a0_3] ?_
                with_reducible refine (armadaref03_four.calls a0_3 t505 _ A29.out).mono ?_
                rintro e w41 ⟨rfl, hb⟩
                refine ⟨_, rfl, ?_⟩
                have hz_ := zqA HB hb
                replace hb := below_step hz_ hb
                replace HO502 := zR HO502 hb
                replace BK498 := zB BK498 hb
                replace HB := zH HB hb
                clear hz_
                (try clear hb)
                (try clear hb2)
                (try clear hk)
                (try clear hi)
                refine hK.out _ _ ⟨c0_ BK498, c1_ BK498, c2_ BK498, c3_ BK498, c4_ BK498⟩ (fun hHeld => ?_)
                clear hK K
                refine nS (some 62) ?_
                refine pU 17 (some 63) #[T_,T_,T_,T_,T_,T_,T_,T_,T_,T_,T_,T_,T_,T_,T_,T_,T_,T_,T_,T_,F_,F_,F_,F_,F_] HT_ ?_
                exact norm_ (nP) (hJ3_4_8_12_16 (v501) _ ⟨hHeld, (qR HO502.out), (qB BK498), qH⟩)
              ·skip
               rintro v501 w41 ⟨hS_, h0_, h1_, h2_⟩
               have n0_ : Aside0 (Kd.R (Kd.int .u8) 5 w41 w.heap.size (fun _ => True) v501 y500) := ⟨h0_⟩
               have n1_ : Aside0 (w41.heap[gb498]? = some (.cells #[.int .i64 a0_0, .int .i64 a0_1, .int .i64 a0_2, .int .i64 a0_3, .int .i64 a0_4] 53 (0, 0))) := ⟨h1_⟩
               have n2_ : Aside0 (Below w.heap.size w w41) := ⟨h2_⟩
               clear BK498
               clear HB
               clear h0_ h1_ h2_
               have HO502 := n0_
               have BK498 := n1_
               have HB := n2_
               clear n0_ n1_ n2_
               have hHeld : w41.cell? ⟨gb498, 0, none⟩ = some (.int .i64 a0_0) ∧ w41.cell? ⟨gb498, 1, none⟩ = some (.int .i64 a0_1) ∧ w41.cell? ⟨gb498, 2, none⟩ = some (.int .i64 a0_2) ∧ w41.cell? ⟨gb498, 3, none⟩ = some (.int .i64 a0_3) ∧ w41.cell? ⟨gb498, 4, none⟩ = some (.int .i64 a0_4) := hS_
               refine nA ?_
               refine oN 4 (some 50) #[T_,T_,T_,T_,T_,F_,T_,T_,T_,F_,T_,T_,T_,F_,T_,T_,T_,F_,T_,T_,T_,F_,F_,F_,F_] HT_ (fun K hK => ?_)
               have hcv42 := own_string (P := Try.prog) Try.underlying100 Try.underlying5 Try.underlying9 (Kd.own_of_R HO502.out)
               refine value_ (w1 := ?_) (v := ?_) (by rfl) rfl ?_ ?_
               rotate_left 2
               ·go_simp
                constructor
                ·rfl
                ·rfl
               clear hcv42
               refine hK.out _ _ ⟨c0_ BK498, c1_ BK498, c2_ BK498, c3_ BK498, c4_ BK498⟩ (fun hHeld => ?_)
               clear hK K
               refine nS (some 50) ?_
               refine pU 5 (some 51) #[T_,T_,T_,T_,T_,T_,T_,T_,T_,F_,T_,T_,T_,F_,T_,T_,T_,F_,T_,T_,T_,F_,F_,F_,F_] HT_ ?_
               refine pU 9 (some 55) #[T_,T_,T_,T_,T_,T_,T_,T_,T_,T_,T_,T_,T_,F_,T_,T_,T_,F_,T_,T_,T_,F_,F_,F_,F_] HT_ ?_
               refine pU 13 (some 59) #[T_,T_,T_,T_,T_,T_,T_,T_,T_,T_,T_,T_,T_,T_,T_,T_,T_,F_,T_,T_,T_,F_,F_,F_,F_] HT_ ?_
               refine pU 17 (some 63) #[T_,T_,T_,T_,T_,T_,T_,T_,T_,T_,T_,T_,T_,T_,T_,T_,T_,T_,T_,T_,T_,F_,F_,F_,F_] HT_ ?_
               exact norm_ (nP) (hJ3_4_8_12_16_20 (v501) _ ⟨hHeld, (qR HO502.out), (qB BK498), qH⟩)
             ·skip
              rintro v501 w41 ⟨hS_, h0_, h1_, h2_⟩
              have n0_ : Aside0 (Kd.R (Kd.int .u8) 5 w41 w.heap.size (fun _ => True) v501 y500) := ⟨h0_⟩
              have n1_ : Aside0 (w41.heap[gb498]? = some (.cells #[.int .i64 a0_0, .int .i64 a0_1, .int .i64 a0_2, .int .i64 a0_3, .int .i64 a0_4] 53 (0, 0))) := ⟨h1_⟩
              have n2_ : Aside0 (Below w.heap.size w w41) := ⟨h2_⟩
              clear BK498
              clear HB
              clear h0_ h1_ h2_
              have HO502 := n0_
              have BK498 := n1_
              have HB := n2_
              clear n0_ n1_ n2_
              have hHeld : w41.cell? ⟨gb498, 0, none⟩ = some (.int .i64 a0_0) ∧ w41.cell? ⟨gb498, 1, none⟩ = some (.int .i64 a0_1) ∧ w41.cell? ⟨gb498, 2, none⟩ = some (.int .i64 a0_2) ∧ w41.cell? ⟨gb498, 3, none⟩ = some (.int .i64 a0_3) ∧ w41.cell? ⟨gb498, 4, none⟩ = some (.int .i64 a0_4) := hS_
              refine nA ?_
              refine oN 20 (some 66) #[T_,T_,T_,T_,T_,T_,T_,T_,T_,T_,T_,T_,T_,T_,T_,T_,T_,T_,T_,T_,T_,F_,F_,F_,F_] HT_ (fun K hK => ?_)
              refine gO Try.func61 #[.int .i64 a0_4] ?_
              with_reducible refine (armadaref03_four.calls a0_4 t506 _ A31.out).mono ?_
              rintro e w42 ⟨rfl, hb⟩
              refine ⟨_, rfl, ?_⟩
              have hz_ := zqA HB hb
              replace hb := below_step hz_ hb
              replace HO502 := zR HO502 hb
              replace BK498 := zB BK498 hb
              replace HB := zH HB hb
              clear hz_
              (try clear hb)
              (try clear hb2)
              (try clear hk)
              (try clear hi)
              refine hK.out _ _ ⟨c0_ BK498, c1_ BK498, c2_ BK498, c3_ BK498, c4_ BK498⟩ (fun hHeld => ?_)
              clear hK K
              refine nS (some 66) ?_
              exact norm_ (nP) (hJ3_4_8_12_16_20 (v501) _ ⟨hHeld, (qR HO502.out), (qB BK498), qH⟩)
            rintro v501 w42 ⟨hS_, h0_, h1_, h2_⟩
            have n0_ : Aside0 (Kd.R (Kd.int .u8) 5 w42 w.heap.size (fun _ => True) v501 y500) := ⟨h0_⟩
            have n1_ : Aside0 (w42.heap[gb498]? = some (.cells #[.int .i64 a0_0, .int .i64 a0_1, .int .i64 a0_2, .int .i64 a0_3, .int .i64 a0_4] 53 (0, 0))) := ⟨h1_⟩
            have n2_ : Aside0 (Below w.heap.size w w42) := ⟨h2_⟩
            clear BK498
            clear HB
            clear h0_ h1_ h2_
            have BK498 := n1_
            have HB := n2_
            clear n0_ n1_ n2_
            have hHeld : w42.cell? ⟨gb498, 0, none⟩ = some (.int .i64 a0_0) ∧ w42.cell? ⟨gb498, 1, none⟩ = some (.int .i64 a0_1) ∧ w42.cell? ⟨gb498, 2, none⟩ = some (.int .i64 a0_2) ∧ w42.cell? ⟨gb498, 3, none⟩ = some (.int .i64 a0_3) ∧ w42.cell? ⟨gb498, 4, none⟩ = some (.int .i64 a0_4) := hS_
            refine nA ?_
            refine pU 21 (some 67) #[T_,T_,T_,T_,T_,T_,T_,T_,T_,T_,T_,T_,T_,T_,T_,T_,T_,T_,T_,T_,T_,T_,F_,F_,F_] HT_ ?_
            refine oN 22 (some 68) #[T_,T_,T_,T_,T_,T_,T_,T_,T_,T_,T_,T_,T_,T_,T_,T_,T_,T_,T_,T_,T_,T_,T_,F_,F_] HT_ (fun K hK => ?_)
            refine gO Try.func60 #[.string ((((((⟨#[72]⟩ : ByteArray) ++ (strOfNums y500)) ++ t503) ++ t504) ++ t505) ++ t506)] ?_
            with_reducible refine (armadaref03_fill.calls kj7 ((((((⟨#[72]⟩ : ByteArray) ++ (strOfNums y500)) ++ t503) ++ t504) ++ t505) ++ t506) t507 _ A33.out).mono ?_
            rintro e w' ⟨rfl, ⟨nd, rfl⟩⟩
            refine ⟨_, rfl, ?_⟩
            refine hK.out _ _ ⟨c0_ BK498, c1_ BK498, c2_ BK498, c3_ BK498, c4_ BK498⟩ (fun hHeld => ?_)
            clear hK K
            refine nS (some 68) ?_
            refine pU 23 (some 2) #[T_,T_,T_,T_,T_,T_,T_,T_,T_,T_,T_,T_,T_,T_,T_,T_,T_,T_,T_,T_,T_,T_,T_,T_,F_] HT_ ?_
            refine pU 24 (some 3) #[T_,T_,T_,T_,T_,T_,T_,T_,T_,T_,T_,T_,T_,T_,T_,T_,T_,T_,T_,T_,T_,T_,T_,T_,T_] HT_ ?_
            refine done_ (done_of HT_.out (by kernel_rfl)) ?_
            try go_wp2
            go_ret2
            exact ⟨eX, qH⟩
           ·rw [if_neg c32] at H
            exact absurd H (by simp)
          ·rw [if_neg c30] at H
           exact absurd H (by simp)
         ·rw [if_neg c28] at H
          exact absurd H (by simp)
        ·rw [if_neg c26] at H
         exact absurd H (by simp)
       ·rw [if_neg c24] at H
        exact absurd H (by simp)
def armadaref03_Read.f (k : Nat) (a0 : ByteArray) : Option (Int × Int × Int × Int × Int × Bool) := if (a0.size : Int) = 32 then (if 1 < (a0.size : Int) then ((armadaref03_number.f a0 2).bind fun t509 => ((armadaref03_number.f a0 6).bind fun t510 => ((armadaref03_number.f a0 10).bind fun t511 => ((armadaref03_number.f a0 14).bind fun t512 => ((armadaref03_Text.f k (wrap64 (bt a0 1)) t509 t510 t511 t512).bind fun bt514 => (if bt514.2 = true then (if bt514.1.toList = a0.toList then (some (wrap64 (bt a0 1), t509, t510, t511, t512, true)) else (some (0, 0, 0, 0, 0, false))) else (some (0, 0, 0, 0, 0, false)))))))) else (none)) else (some (0, 0, 0, 0, 0, false))
theorem armadaref03_Read.mono : ∀ a0 k, LeO (armadaref03_Read.f k a0) (armadaref03_Read.f (k + 1) a0) := by
 intro a0 k
 unfold armadaref03_Read.f
 repeat' first
   | (with_reducible exact armadaref03_Text.mono _ _ _ _ _ _)
   | (with_reducible exact LeO.refl _)
   | (with_reducible exact LeO.none _)
   | (with_reducible refine LeO.ite ?_ ?_)
   | (with_reducible refine LeO.bind ?_ (fun _ => ?_))
   | exact armadaref03_Text.mono _ _ _ _ _ _
   | exact LeO.none _
   | refine LeO.ite ?_ ?_
   | refine LeO.bind ?_ (fun _ => ?_)
def armadaref03_Read.T3 : Bool × List (List Nat × List Nat) := (true, [([], []), ([0], [0]), ([1], [1]), ([], []), ([3], [3]), ([], []), ([5, 4], [5]), ([], []), ([7, 6], [7]), ([], []), ([9, 8], [9]), ([2, 4, 6, 8, 10], [2, 4, 6, 8, 10]), ([], []), ([12, 11, 10, 0, 1, 2, 3, 4, 5, 6, 7, 8, 9, 10, 11, 12], [11, 12])])
def armadaref03_Read.B3 : List Nat := [0, 1, 3, 0, 8, 0, 56, 0, 248, 0, 1016, 2047, 0, 8191]
theorem armadaref03_Read.tab3 : rtab .any (opsOf Try.f18 3) = armadaref03_Read.T3 := by kernel_rfl
theorem armadaref03_Read.bits3 : waitsOk armadaref03_Read.T3.2 armadaref03_Read.B3 = true := by kernel_rfl
set_option maxHeartbeats 8000000 in
set_option maxRecDepth 100000 in
theorem armadaref03_Read.calls (k : Nat) (a0 : ByteArray) (r1 : Int) (r2 : Int) (r3 : Int) (r4 : Int) (r5 : Int) (r6 : Bool) (w : World) (h : armadaref03_Read.f k a0 = some (r1, r2, r3, r4, r5, r6)) :
  Calls Try.prog 18 #[.string a0] w fun e w' => e = .returned (.tuple #[.agg #[.int .i64 r1, .int .i64 r2, .int .i64 r3, .int .i64 r4, .int .i64 r5], .bool r6]) ∧ Below w.heap.size w w' := by
 have hu := Try.underlying53
 have HB := Aside0.mk (Below.refl w.heap.size w)
 unfold armadaref03_Read.f at h
 have H := Aside0.mk h; clear h
 have lay : ∀ {ops : Array Oper} {rest : List Oper} {o : Oper} {a : Act} {Q : Exit → Act → World → Prop} {W : World} (N : Tmp) (hd : o.dst = some N) (hgd : o.guard = none) (ho : o.op = .alloc 53)
   (h : ∀ g, Aside0 (g = W.heap.size) → ∀ w1, Aside0 (w1.heap[g]? = some (.cells #[.int .i64 0, .int .i64 0, .int .i64 0, .int .i64 0, .int .i64 0] 53 (0, 0))) → Aside0 (Below W.heap.size W w1) → wpList Try.prog ops Q rest (a.put (some N) (.pointer (some ⟨g, 0, none⟩))) w1), wpList Try.prog ops Q (o :: rest) a W :=
  fun N hd hgd ho h => box_lay N hd hgd _ ho _ (by kernel_rfl) h
 go_enter Try.func18, Try.ntmps18
 by_cases c1 : (a0.size : Int) = 32
 rotate_left
 ·have H := H.out
  rw [if_neg c1] at H
  obtain ⟨rfl, rfl, rfl, rfl, rfl, rfl⟩ : 0 = r1 ∧ 0 = r2 ∧ 0 = r3 ∧ 0 = r4 ∧ 0 = r5 ∧ false = r6 := by simpa using H
  have c1b : ((a0.size : Int) != 32) = true := bne_iff_ne.2 c1
  clear H c1
  go_wp2_with (first | ((with_reducible refine gate_dst (N := 2) rfl ?_); refine lay 2 rfl rfl rfl ?_; intro g hg w1 BK_ hb; have GEg := Aside0.mk (by rw [hg.out]; exact below_size HB.out : w.heap.size ≤ g); have BKg := BK_; skip; replace HB := Aside0.mk (below_step HB.out hb.out); clear BK_ hb hg) | ((with_reducible refine gate_store (t := 53) (p := 2) rfl ?_); refine box_put rfl rfl 53 (.tmp 2) (.tmp 10) rfl g _ #[.int .i64 0, .int .i64 0, .int .i64 0, .int .i64 0, .int .i64 0] rfl rfl BKg.out rfl rfl (by kernel_rfl) ?_; intro w2 BK2 hb2 hk2 hs2; skip; replace BKg := BK2; replace HB := Aside0.mk (HB.out.trans (hb2.out.mono GEg.out)); clear BK2 hb2 hk2 hs2))
  refine bodyPost_ret (results_ct rfl _ _ g 53 _ (0, 0) _ rfl BKg.out Try.underlying53 rfl (by kernel_rfl)) rfl ?_
  exact ⟨rfl, HB.out⟩
 have c1b : ((a0.size : Int) != 32) = false := bne_eq_false_iff_eq.2 c1
 have c2 : 1 < (a0.size : Int) := by omega
 have h := H.out
 rw [if_pos c1, if_pos c2] at h
 clear H c1
 obtain ⟨t0, q0, h⟩ := Option.bind_eq_some_iff.1 h
 obtain ⟨t1, q1, h⟩ := Option.bind_eq_some_iff.1 h
 obtain ⟨t2, q2, h⟩ := Option.bind_eq_some_iff.1 h
 obtain ⟨t3, q3, h⟩ := Option.bind_eq_some_iff.1 h
 obtain ⟨⟨x, is⟩, q4, h⟩ := Option.bind_eq_some_iff.1 h
 have Q0 := Aside0.mk q0; have Q1 := Aside0.mk q1; have Q2 := Aside0.mk q2; have Q3 := Aside0.mk q3; have Q4 := Aside0.mk q4; have H := Aside0.mk h
 clear q0 q1 q2 q3 q4 h
 have d2 : decide (1 < (a0.size : Int)) = true := decide_eq_true c2
 have d3 : decide (1 < a0.size) = true := decide_eq_true (by omega)
 have C2 := Aside0.mk c2; clear c2
 go_wp2_with (((with_reducible refine gate_dst (N := 2) rfl ?_); refine lay 2 rfl rfl rfl ?_; intro g hg w1 BK_ hb; have GEg := Aside0.mk (by rw [hg.out]; exact below_size HB.out : w.heap.size ≤ g); have BKg := BK_; skip; replace HB := Aside0.mk (below_step HB.out hb.out); clear BK_ hb hg))
 refine Q.wp_quiet_lay 13 (by kernel_rfl) (by kernel_rfl) 53 4 #[.int .i64 0, .int .i64 0, .int .i64 0, .int .i64 0, .int .i64 0] (by kernel_rfl) rfl rfl rfl rfl (fun _ => rfl) ?_
 simp only [List.take_succ_cons, List.take_zero, List.drop_succ_cons, List.drop_zero]
 refine Q.wq_step (.string a0) rfl (fun w0 m => ?_) ?_
 ·go_simp
 refine Q.wq_step (.int .u8 (bt a0 1)) rfl (fun w0 m => ?_) ?_
 ·go_simp
  rw [dif_pos C2.out]
  exact ⟨rfl, congrArg _ (bt_at a0 1 (by have := C2.out; omega))⟩
 refine Q.wq_step (.int .i64 (wrap64 (bt a0 1))) rfl (fun w0 m => ?_) ?_
 ·go_simp
  exact i64_w _
 refine Q.wq_step (.string a0) rfl (fun w0 m => ?_) ?_
 ·go_simp
 refine Q.wq_step (.int .i64 t0) rfl (fun w0 m => ?_) ?_
 ·go_simp
  exact quietD (armadaref03_number.calls _ _ _ _ Q0.out)
 refine Q.wq_step (.string a0) rfl (fun w0 m => ?_) ?_
 ·go_simp
 refine Q.wq_step (.int .i64 t1) rfl (fun w0 m => ?_) ?_
 ·go_simp
  exact quietD (armadaref03_number.calls _ _ _ _ Q1.out)
 refine Q.wq_step (.string a0) rfl (fun w0 m => ?_) ?_
 ·go_simp
 refine Q.wq_step (.int .i64 t2) rfl (fun w0 m => ?_) ?_
 ·go_simp
  exact quietD (armadaref03_number.calls _ _ _ _ Q2.out)
 refine Q.wq_step (.string a0) rfl (fun w0 m => ?_) ?_
 ·go_simp
 refine Q.wq_step (.int .i64 t3) rfl (fun w0 m => ?_) ?_
 ·go_simp
  exact quietD (armadaref03_number.calls _ _ _ _ Q3.out)
 refine Q.wq_step (.agg #[.int .i64 (wrap64 (bt a0 1)), .int .i64 t0, .int .i64 t1, .int .i64 t2, .int .i64 t3]) rfl (fun w0 m => ?_) ?_
 ·go_simp
 intro nq
 simp only [Act.put, List.setIfInBounds_toArray, List.set_cons_zero, List.set_cons_succ]
 have GLT := Aside0.mk (blk_lt BKg.out)
 have BKu : Aside0 (((w1.alloc (.cells #[.int .i64 0, .int .i64 0, .int .i64 0, .int .i64 0, .int .i64 0] 53 (0, 0))).drewN nq).heap[w1.heap.size]? = some (.cells #[.int .i64 0, .int .i64 0, .int .i64 0, .int .i64 0, .int .i64 0] 53 (0, 0))) := ⟨_root_.Go.heap_alloc_new w1 _⟩
 replace BKg : Aside0 (((w1.alloc (.cells #[.int .i64 0, .int .i64 0, .int .i64 0, .int .i64 0, .int .i64 0] 53 (0, 0))).drewN nq).heap[g]? = some (.cells #[.int .i64 0, .int .i64 0, .int .i64 0, .int .i64 0, .int .i64 0] 53 (0, 0))) := ⟨(_root_.Go.heap_alloc_old w1 _ GLT.out).trans BKg.out⟩
 have GEu := Aside0.mk HB.out.size
 replace HB := Aside0.mk (yN_ (HB.out.alloc HB.out.size (.cells #[.int .i64 0, .int .i64 0, .int .i64 0, .int .i64 0, .int .i64 0] 53 (0, 0))) nq)
 have NE := Aside0.mk (Nat.ne_of_lt GLT.out)
 clear C2 d2 d3 GLT
 generalize (w1.alloc (.cells #[.int .i64 0, .int .i64 0, .int .i64 0, .int .i64 0, .int .i64 0] 53 (0, 0))).drewN nq = wq at *
 generalize w1.heap.size = u at *
 cases is
 ·obtain ⟨rfl, rfl, rfl, rfl, rfl, rfl⟩ : 0 = r1 ∧ 0 = r2 ∧ 0 = r3 ∧ 0 = r4 ∧ 0 = r5 ∧ false = r6 := by simpa using H.out
  clear H
  go_wp2_with (first | ((with_reducible refine gate_store (t := 53) (p := 4) rfl ?_); refine box_put rfl rfl 53 (.tmp 4) (.tmp 22) rfl u _ #[.int .i64 (wrap64 (bt a0 1)), .int .i64 t0, .int .i64 t1, .int .i64 t2, .int .i64 t3] rfl rfl BKu.out rfl rfl (by kernel_rfl) ?_; intro w2 BK2 hb2 hk2 hs2; replace BKg := Aside0.mk ((hk2.out g NE.out).trans BKg.out); replace BKu := BK2; replace HB := Aside0.mk (HB.out.trans (hb2.out.mono GEu.out)); clear BK2 hb2 hk2 hs2; have z0 := (xC_ BKu.out 0).trans (show _ = some (Value.int .i64 (wrap64 (bt a0 1))) from rfl); have z1 := (xC_ BKu.out 1).trans (show _ = some (Value.int .i64 t0) from rfl); have z2 := (xC_ BKu.out 2).trans (show _ = some (Value.int .i64 t1) from rfl); have z3 := (xC_ BKu.out 3).trans (show _ = some (Value.int .i64 t2) from rfl); have z4 := (xC_ BKu.out 4).trans (show _ = some (Value.int .i64 t3) from rfl)) | (go_at_call 41; (with_reducible refine (armadaref03_Text.calls _ _ _ _ _ _ _ _ _ Q4.out).mono ?_); rintro e w3 ⟨rfl, hb⟩; clear z0 z1 z2 z3 z4; replace BKg := Aside0.mk (blk_below BKg.out hb); replace BKu := Aside0.mk (blk_below BKu.out hb); replace HB := Aside0.mk (below_step HB.out hb); clear hb; have z0 := (xC_ BKu.out 0).trans (show _ = some (Value.int .i64 (wrap64 (bt a0 1))) from rfl); have z1 := (xC_ BKu.out 1).trans (show _ = some (Value.int .i64 t0) from rfl); have z2 := (xC_ BKu.out 2).trans (show _ = some (Value.int .i64 t1) from rfl); have z3 := (xC_ BKu.out 3).trans (show _ = some (Value.int .i64 t2) from rfl); have z4 := (xC_ BKu.out 4).trans (show _ = some (Value.int .i64 t3) from rfl)) | ((with_reducible refine gate_store (t := 53) (p := 2) rfl ?_); refine box_put rfl rfl 53 (.tmp 2) (.tmp 35) rfl g _ #[.int .i64 0, .int .i64 0, .int .i64 0, .int .i64 0, .int .i64 0] rfl rfl BKg.out rfl rfl (by kernel_rfl) ?_; intro w2 BK2 hb2 hk2 hs2; clear z0 z1 z2 z3 z4; replace BKg := BK2; replace HB := Aside0.mk (HB.out.trans (hb2.out.mono GEg.out)); clear BK2 hb2 hk2 hs2; skip))
  refine bodyPost_ret (results_ct rfl _ _ g 53 _ (0, 0) _ rfl BKg.out Try.underlying53 rfl (by kernel_rfl)) rfl ?_
  exact ⟨rfl, HB.out⟩
 by_cases c3 : x.toList = a0.toList
 ·obtain ⟨rfl, rfl, rfl, rfl, rfl, rfl⟩ : wrap64 (bt a0 1) = r1 ∧ t0 = r2 ∧ t1 = r3 ∧ t2 = r4 ∧ t3 = r5 ∧ true = r6 := by simpa [c3] using H.out
  clear H
  have c4 : (x.toList == a0.toList) = true := beq_iff_eq.2 c3
  have c5 : (x.toList != a0.toList) = false := bne_eq_false_iff_eq.2 c3
  clear c3
  go_wp2_with (first | ((with_reducible refine gate_store (t := 53) (p := 4) rfl ?_); refine box_put rfl rfl 53 (.tmp 4) (.tmp 22) rfl u _ #[.int .i64 (wrap64 (bt a0 1)), .int .i64 t0, .int .i64 t1, .int .i64 t2, .int .i64 t3] rfl rfl BKu.out rfl rfl (by kernel_rfl) ?_; intro w2 BK2 hb2 hk2 hs2; replace BKg := Aside0.mk ((hk2.out g NE.out).trans BKg.out); replace BKu := BK2; replace HB := Aside0.mk (HB.out.trans (hb2.out.mono GEu.out)); clear BK2 hb2 hk2 hs2; have z0 := (xC_ BKu.out 0).trans (show _ = some (Value.int .i64 (wrap64 (bt a0 1))) from rfl); have z1 := (xC_ BKu.out 1).trans (show _ = some (Value.int .i64 t0) from rfl); have z2 := (xC_ BKu.out 2).trans (show _ = some (Value.int .i64 t1) from rfl); have z3 := (xC_ BKu.out 3).trans (show _ = some (Value.int .i64 t2) from rfl); have z4 := (xC_ BKu.out 4).trans (show _ = some (Value.int .i64 t3) from rfl)) | (go_at_call 41; (with_reducible refine (armadaref03_Text.calls _ _ _ _ _ _ _ _ _ Q4.out).mono ?_); rintro e w3 ⟨rfl, hb⟩; clear z0 z1 z2 z3 z4; replace BKg := Aside0.mk (blk_below BKg.out hb); replace BKu := Aside0.mk (blk_below BKu.out hb); replace HB := Aside0.mk (below_step HB.out hb); clear hb; have z0 := (xC_ BKu.out 0).trans (show _ = some (Value.int .i64 (wrap64 (bt a0 1))) from rfl); have z1 := (xC_ BKu.out 1).trans (show _ = some (Value.int .i64 t0) from rfl); have z2 := (xC_ BKu.out 2).trans (show _ = some (Value.int .i64 t1) from rfl); have z3 := (xC_ BKu.out 3).trans (show _ = some (Value.int .i64 t2) from rfl); have z4 := (xC_ BKu.out 4).trans (show _ = some (Value.int .i64 t3) from rfl)) | ((with_reducible refine gate_store (t := 53) (p := 2) rfl ?_); refine box_put rfl rfl 53 (.tmp 2) (.tmp 36) rfl g _ #[.int .i64 (wrap64 (bt a0 1)), .int .i64 t0, .int .i64 t1, .int .i64 t2, .int .i64 t3] rfl rfl BKg.out rfl rfl (by kernel_rfl) ?_; intro w2 BK2 hb2 hk2 hs2; clear z0 z1 z2 z3 z4; replace BKg := BK2; replace HB := Aside0.mk (HB.out.trans (hb2.out.mono GEg.out)); clear BK2 hb2 hk2 hs2; skip))
  refine bodyPost_ret (results_ct rfl _ _ g 53 _ (0, 0) _ rfl BKg.out Try.underlying53 rfl (by kernel_rfl)) rfl ?_
  exact ⟨rfl, HB.out⟩
 ·obtain ⟨rfl, rfl, rfl, rfl, rfl, rfl⟩ : 0 = r1 ∧ 0 = r2 ∧ 0 = r3 ∧ 0 = r4 ∧ 0 = r5 ∧ false = r6 := by simpa [c3] using H.out
  clear H
  have c4 : (x.toList == a0.toList) = false := beq_eq_false_iff_ne.2 c3
  have c5 : (x.toList != a0.toList) = true := bne_iff_ne.2 c3
  clear c3
  go_wp2_with (first | ((with_reducible refine gate_store (t := 53) (p := 4) rfl ?_); refine box_put rfl rfl 53 (.tmp 4) (.tmp 22) rfl u _ #[.int .i64 (wrap64 (bt a0 1)), .int .i64 t0, .int .i64 t1, .int .i64 t2, .int .i64 t3] rfl rfl BKu.out rfl rfl (by kernel_rfl) ?_; intro w2 BK2 hb2 hk2 hs2; replace BKg := Aside0.mk ((hk2.out g NE.out).trans BKg.out); replace BKu := BK2; replace HB := Aside0.mk (HB.out.trans (hb2.out.mono GEu.out)); clear BK2 hb2 hk2 hs2; have z0 := (xC_ BKu.out 0).trans (show _ = some (Value.int .i64 (wrap64 (bt a0 1))) from rfl); have z1 := (xC_ BKu.out 1).trans (show _ = some (Value.int .i64 t0) from rfl); have z2 := (xC_ BKu.out 2).trans (show _ = some (Value.int .i64 t1) from rfl); have z3 := (xC_ BKu.out 3).trans (show _ = some (Value.int .i64 t2) from rfl); have z4 := (xC_ BKu.out 4).trans (show _ = some (Value.int .i64 t3) from rfl)) | (go_at_call 41; (with_reducible refine (armadaref03_Text.calls _ _ _ _ _ _ _ _ _ Q4.out).mono ?_); rintro e w3 ⟨rfl, hb⟩; clear z0 z1 z2 z3 z4; replace BKg := Aside0.mk (blk_below BKg.out hb); replace BKu := Aside0.mk (blk_below BKu.out hb); replace HB := Aside0.mk (below_step HB.out hb); clear hb; have z0 := (xC_ BKu.out 0).trans (show _ = some (Value.int .i64 (wrap64 (bt a0 1))) from rfl); have z1 := (xC_ BKu.out 1).trans (show _ = some (Value.int .i64 t0) from rfl); have z2 := (xC_ BKu.out 2).trans (show _ = some (Value.int .i64 t1) from rfl); have z3 := (xC_ BKu.out 3).trans (show _ = some (Value.int .i64 t2) from rfl); have z4 := (xC_ BKu.out 4).trans (show _ = some (Value.int .i64 t3) from rfl)) | ((with_reducible refine gate_store (t := 53) (p := 2) rfl ?_); refine box_put rfl rfl 53 (.tmp 2) (.tmp 35) rfl g _ #[.int .i64 0, .int .i64 0, .int .i64 0, .int .i64 0, .int .i64 0] rfl rfl BKg.out rfl rfl (by kernel_rfl) ?_; intro w2 BK2 hb2 hk2 hs2; clear z0 z1 z2 z3 z4; replace BKg := BK2; replace HB := Aside0.mk (HB.out.trans (hb2.out.mono GEg.out)); clear BK2 hb2 hk2 hs2; skip))
  refine bodyPost_ret (results_ct rfl _ _ g 53 _ (0, 0) _ rfl BKg.out Try.underlying53 rfl (by kernel_rfl)) rfl ?_
  exact ⟨rfl, HB.out⟩
end Go.Proofs.Ythoddglnfdmdeaa.P
