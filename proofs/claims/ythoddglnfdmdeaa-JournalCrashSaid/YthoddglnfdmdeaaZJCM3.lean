/- Printed functions, merged. -/
import Derived.Test.YthoddglnfdmdeaaZJCM0
import Derived.Test.YthoddglnfdmdeaaZJCH3
import Derived.Test.YthoddglnfdmdeaaZJCM1
import Derived.Test.YthoddglnfdmdeaaZJCM2
import Derived.Test.YthoddglnfdmdeaaZJCH1
import Derived.Test.YthoddglnfdmdeaaZJCH0
import Derived.Outline
import Derived.Sort.AtCall
import Derived.Test.YthoddglnfdmdeaaZJCAl
namespace Go.Proofs.Ythoddglnfdmdeaa.P
open Go.RowKit Go.Proofs.YthoddglnfdmdeaaW.PrintWords Go.Proofs.YthoddglnfdmdeaaW.PrintLast Go.Proofs.YthoddglnfdmdeaaW.PrintMore
attribute [local go_sem] max2_int min2_int max_two min_two max_three min_three max_four min_four   -- for this text's walks alone
set_option linter.unusedVariables false
set_option linter.unusedSimpArgs false
def disk_Put.j0 : Nat → Int → ByteArray → Bool → List ByteArray → List (S29) → Option (List ByteArray × (List (S29)) × Int)
 | 0, _, _, _, _, _ => none
 | k + 1, x1, x2, x8, x406000, x406001 => if x8 = true then (some (x406000, x406001, 1)) else (if (x2.size : Int) > 32 then (some (x406000, x406001, 2)) else (if ([] : List (S29)).length + x406001.length < 5864062014805 then ((some (([] : List (S29)) ++ x406001 : List (S29))).bind fun y409 => ((disk_filled.f x2).bind fun t412 => (if y409.length < 5864062014805 then (some (x406000, (y409 ++ [(⟨x1, t412⟩ : S29)]), 0)) else (none)))) else (none)))
def disk_Put.f (k : Nat) (l0_0 : List ByteArray) (l0_1 : List (S29)) (a1 : Int) (a2 : ByteArray) : Option (List ByteArray × (List (S29)) × Int) := (disk_May.f k l0_0 l0_1).bind fun t407 => (if t407 = true then ((disk_is.f l0_0 l0_1 a1).bind fun t408 => (disk_Put.j0 k a1 a2 (!t408) l0_0 l0_1)) else (disk_Put.j0 k a1 a2 true l0_0 l0_1))
theorem disk_Put.mono_l : ∀ k, (∀ y0 y1 y2 y3 y4, LeO (disk_Put.j0 k y0 y1 y2 y3 y4) (disk_Put.j0 (k + 1) y0 y1 y2 y3 y4))
 | 0 => fun _ _ _ _ _ r h => by simp [disk_Put.j0] at h
 | k + 1 => by
  have ih0 := disk_Put.mono_l k
  ·intro y0 y1 y2 y3 y4
   unfold disk_Put.j0
   repeat' first
   | (with_reducible exact ih0 _ _ _ _ _)
   | (with_reducible exact disk_May.mono _ _ _)
   | (with_reducible exact LeO.refl _)
   | (with_reducible exact LeO.none _)
   | (with_reducible refine LeO.ite ?_ ?_)
   | (with_reducible refine LeO.bind ?_ (fun _ => ?_))
   | exact ih0 _ _ _ _ _
   | exact disk_May.mono _ _ _
   | exact LeO.none _
   | refine LeO.ite ?_ ?_
   | refine LeO.bind ?_ (fun _ => ?_)
theorem disk_Put.mono : ∀ a0 a1 a2 a3 k, LeO (disk_Put.f k a0 a1 a2 a3) (disk_Put.f (k + 1) a0 a1 a2 a3) := by
 intro a0 a1 a2 a3 k
 have ih0 := disk_Put.mono_l k
 unfold disk_Put.f
 repeat' first
   | (with_reducible exact ih0 _ _ _ _ _)
   | (with_reducible exact disk_May.mono _ _ _)
   | (with_reducible exact LeO.refl _)
   | (with_reducible exact LeO.none _)
   | (with_reducible refine LeO.ite ?_ ?_)
   | (with_reducible refine LeO.bind ?_ (fun _ => ?_))
   | exact ih0 _ _ _ _ _
   | exact disk_May.mono _ _ _
   | exact LeO.none _
   | refine LeO.ite ?_ ?_
   | refine LeO.bind ?_ (fun _ => ?_)
set_option maxHeartbeats 8000000 in
set_option maxRecDepth 100000 in
theorem disk_Put.calls (k : Nat) (P0_0_ : Nat → Prop) (A0_0 : Option Addr) (c0_0 : Nat) (l0_0 : List ByteArray) (P0_1_ : Nat → Prop) (A0_1 : Option Addr) (c0_1 : Nat) (l0_1 : List (S29)) (a1 : Int) (a2 : ByteArray) (r1 : List ByteArray) (r2 : List (S29)) (r3 : Int) (w : World) (hs0_0 : Kd.V Kd.string 9 w w.heap.size (fun k_ => P0_0_ k_) (.slice A0_0 l0_0.length c0_0) l0_0) (hs0_1 : Kd.V k29 29 w w.heap.size (fun k_ => P0_1_ k_) (.slice A0_1 l0_1.length c0_1) l0_1) (h : disk_Put.f k l0_0 l0_1 a1 a2 = some (r1, r2, r3)) :
  Calls Try.prog 10 #[.agg #[.slice A0_0 l0_0.length c0_0, .slice A0_1 l0_1.length c0_1], .int .i64 a1, .string a2] w fun e w' => ∃ v0_ v1_ : Value, e = .returned (.tuple #[.agg #[v0_, v1_], .int .i64 r3]) ∧ Kd.V Kd.string 9 w' w.heap.size (fun k_ => ((P0_0_ k_ ∨ P0_1_ k_) ∨ w.heap.size ≤ k_)) v0_ r1 ∧ Kd.V k29 29 w' w.heap.size (fun k_ => ((P0_0_ k_ ∨ P0_1_ k_) ∨ w.heap.size ≤ k_)) v1_ r2 ∧ Below w.heap.size w w' := by
 have hu25 := Try.underlying25
 have hu29 := Try.underlying29
 have HO0_0 := Aside0.mk (show Kd.V Kd.string 9 w w.heap.size (fun k_ => ((P0_0_ k_ ∨ P0_1_ k_) ∨ w.heap.size ≤ k_)) (.slice A0_0 l0_0.length c0_0) l0_0 from Kd.V_mono hs0_0 (fun k_ hk => .inl (.inl hk)))
 have HO0_1 := Aside0.mk (show Kd.V k29 29 w w.heap.size (fun k_ => ((P0_0_ k_ ∨ P0_1_ k_) ∨ w.heap.size ≤ k_)) (.slice A0_1 l0_1.length c0_1) l0_1 from Kd.V_mono hs0_1 (fun k_ hk => .inl (.inr hk)))
 have HB := Aside0.mk (Below.refl w.heap.size w)
 have H := h
 unfold disk_Put.f at H
 clear h
 have HC4 := Aside0.mk H
 clear H
 go_enter Try.func10, Try.ntmps10
 go_upto_region 1 with (first | ((with_reducible refine gate_dst (N := 3) rfl ?_); refine bE (N := 3) (cs := #[.slice A0_0 l0_0.length c0_0, .slice A0_1 l0_1.length c0_1]) (t := 25) ?_; intro gb405 hg w5 hbox hb; have n0_ := Aside0.mk (Kd.V_below (Kd.V_elderB (qV HO0_0.out) gb405 (Nat.le_of_eq hg.symm)) hb); have n1_ := Aside0.mk (Kd.V_below (Kd.V_elderB (qV HO0_1.out) gb405 (Nat.le_of_eq hg.symm)) hb); have n2_ := wH hb; have n3_ := Aside0.mk (hbox); have n4_ := Aside0.mk ((qG hg)); have n5_ := Aside0.mk ((qG hg)); clear HO0_0; clear HO0_1; clear HB; have HO0_0 := n0_; have HO0_1 := n1_; have HB := n2_; have BK405 := n3_; have GE405 := n5_; clear n0_ n1_ n2_ n3_ n4_ n5_; clear hb hbox hg) | ((with_reducible refine gate_dst (N := 6) rfl ?_); refine bE (N := 6) (cs := #[.slice none 0 0, .slice none 0 0]) (t := 25) ?_; intro gb406 hg w6 hbox hb; have n0_ := Aside0.mk (Kd.V_below (Kd.V_elderB (qV HO0_0.out) gb406 (Nat.le_of_eq hg.symm)) hb); have n1_ := Aside0.mk (Kd.V_below (Kd.V_elderB (qV HO0_1.out) gb406 (Nat.le_of_eq hg.symm)) hb); have n2_ := wB BK405 hb; have n3_ := wH hb; have n4_ := Aside0.mk (hbox); have n5_ := Aside0.mk ((qG hg)); have n6_ := Aside0.mk ((qG hg)); have n7_ := Aside0.mk ((by rw [hg]; exact Nat.ne_of_lt (blk_lt (g := gb405) (o := .cells #[.slice A0_0 l0_0.length c0_0, .slice A0_1 l0_1.length c0_1] 25 (0, 0)) (qB BK405)) : gb405 ≠ gb406)); have n8_ := Aside0.mk ((by rw [hg]; exact Nat.ne_of_gt (blk_lt (g := gb405) (o := .cells #[.slice A0_0 l0_0.length c0_0, .slice A0_1 l0_1.length c0_1] 25 (0, 0)) (qB BK405)) : gb406 ≠ gb405)); clear HO0_0; clear HO0_1; clear BK405; clear HB; have HO0_0 := n0_; have HO0_1 := n1_; have BK405 := n2_; have HB := n3_; have BK406 := n4_; have GE406 := n6_; have NB405_406 := n7_; have NB406_405 := n8_; clear n0_ n1_ n2_ n3_ n4_ n5_ n6_ n7_ n8_; clear hb hbox hg))
 (try simp only [Act.put, List.setIfInBounds_toArray, List.set_cons_zero, List.set_cons_succ])
 go_cut [8] (fun v8 wc => ∃ (kq : Nat) (x8_3 : Bool), v8 = .bool x8_3 ∧ Aside0 (disk_Put.j0 kq a1 a2 x8_3 l0_0 l0_1 = some (r1, r2, r3)) ∧ Aside0 (kq ≤ k) ∧ Aside0 (Kd.V Kd.string 9 wc w.heap.size (fun k_ => ((P0_0_ k_ ∨ P0_1_ k_) ∨ w.heap.size ≤ k_) ∧ k_ ≠ gb405 ∧ k_ ≠ gb406) (.slice A0_0 l0_0.length c0_0) l0_0) ∧ Aside0 (Kd.V k29 29 wc w.heap.size (fun k_ => ((P0_0_ k_ ∨ P0_1_ k_) ∨ w.heap.size ≤ k_) ∧ k_ ≠ gb405 ∧ k_ ≠ gb406) (.slice A0_1 l0_1.length c0_1) l0_1) ∧ Aside0 (wc.heap[gb405]? = some (.cells #[(.slice A0_0 l0_0.length c0_0), (.slice A0_1 l0_1.length c0_1)] 25 (0, 0))) ∧ Aside0 (wc.heap[gb406]? = some (.cells #[(.slice none 0 0), (.slice none 0 0)] 25 (0, 0))) ∧ Aside0 (Below w.heap.size w wc))
 case first =>
  have H := HC4.out
  clear HC4
  replace H := Option.bind_eq_some_iff.mp H
  obtain ⟨t407, A70, H⟩ := H
  try dsimp only at H
  have A7 := Aside0.mk A70
  clear A70
  by_cases c8 : t407 = true
  ·subst c8
   rw [if_pos rfl] at H
   replace H := Option.bind_eq_some_iff.mp H
   obtain ⟨t408, A90, H⟩ := H
   try dsimp only at H
   have A9 := Aside0.mk A90
   clear A90
   have H' := Aside0.mk H
   clear H
   obtain ⟨hnb10, hnc10⟩ := nn_ NB405_406
   obtain ⟨hcz11_0, hcz11_1, hfz11_0, hfz11_1⟩ := e2_ BK405
   go_wp2_with (first | ((with_reducible refine gate_callee (f := 29) rfl ?_); refine gL (some 10) Try.func29 #[.agg #[.slice A0_0 l0_0.length c0_0, .slice A0_1 l0_1.length c0_1]] ?_; (with_reducible refine (disk_May.calls k _ _ l0_0 _ _ l0_1 true _ ?side1 ?side2 ?side3 ?side4 A7.out).mono ?_); (case side1 => exact qK (Kd.V_reads' HO0_0.out).2.2); (case side2 => exact (Kd.V_reads' HO0_0.out).2.1); (case side3 => exact qK (Kd.V_reads' HO0_1.out).2.2); (case side4 => exact (Kd.V_reads' HO0_1.out).2.1); rintro e w12 ⟨rfl, hb⟩; refine ⟨_, rfl, ?_⟩; have n0_ := Aside0.mk (Kd.V_below (qV HO0_0.out) hb); have n1_ := Aside0.mk (Kd.V_below (qV HO0_1.out) hb); have n2_ := wB BK405 hb; have n3_ := wB BK406 hb; have n4_ := wH hb; clear HO0_0; clear HO0_1; clear BK405; clear BK406; clear HB; have HO0_0 := n0_; have HO0_1 := n1_; have BK405 := n2_; have BK406 := n3_; have HB := n4_; clear n0_ n1_ n2_ n3_ n4_; (try clear hb); (try clear hb2); (try clear hk); (try clear hi); obtain ⟨hcz13_0, hcz13_1, hfz13_0, hfz13_1⟩ := e2_ BK405) | (go_at_call 30; (with_reducible refine (disk_is.calls _ _ l0_0 _ _ l0_1 a1 t408 _ ?side1 ?side2 ?side3 ?side4 A9.out).mono ?_); (case side1 => exact qK (Kd.V_reads' HO0_0.out).2.2); (case side2 => exact (Kd.V_reads' HO0_0.out).2.1); (case side3 => exact qK (Kd.V_reads' HO0_1.out).2.2); (case side4 => exact (Kd.V_reads' HO0_1.out).2.1); rintro e w14 ⟨rfl, hb⟩; have n0_ := Aside0.mk (Kd.V_below (qV HO0_0.out) hb); have n1_ := Aside0.mk (Kd.V_below (qV HO0_1.out) hb); have n2_ := wB BK405 hb; have n3_ := wB BK406 hb; have n4_ := wH hb; clear HO0_0; clear HO0_1; clear BK405; clear BK406; clear HB; have HO0_0 := n0_; have HO0_1 := n1_; have BK405 := n2_; have BK406 := n3_; have HB := n4_; clear n0_ n1_ n2_ n3_ n4_; (try clear hb); (try clear hb2); (try clear hk); (try clear hi)))
   go_meet
   case rel => exact ⟨_, (!t408), eY, H', ⟨by first | omega | exact Nat.le_refl _⟩, ⟨by (with_reducible repeat (first | apply Kd.V_alloc | apply Kd.V_drewN | apply Kd.V_drew)); exact Kd.V_mono HO0_0.out (fun _ hk => ⟨hk.1.1, ⟨hk.1.2, hk.2⟩⟩)⟩, ⟨by (with_reducible repeat (first | apply Kd.V_alloc | apply Kd.V_drewN | apply Kd.V_drew)); exact Kd.V_mono HO0_1.out (fun _ hk => ⟨hk.1.1, ⟨hk.1.2, hk.2⟩⟩)⟩, ⟨qB BK405⟩, ⟨qB BK406⟩, ⟨qH⟩⟩
  ·replace c8 := Bool.eq_false_iff.mpr c8
   subst c8
   rw [if_neg nF_] at H
   have H' := Aside0.mk H
   clear H
   obtain ⟨hnb15, hnc15⟩ := nn_ NB405_406
   obtain ⟨hcz16_0, hcz16_1, hfz16_0, hfz16_1⟩ := e2_ BK405
   go_wp2_with (first | ((with_reducible refine gate_callee (f := 29) rfl ?_); refine gL (some 10) Try.func29 #[.agg #[.slice A0_0 l0_0.length c0_0, .slice A0_1 l0_1.length c0_1]] ?_; (with_reducible refine (disk_May.calls k _ _ l0_0 _ _ l0_1 false _ ?side1 ?side2 ?side3 ?side4 A7.out).mono ?_); (case side1 => exact qK (Kd.V_reads' HO0_0.out).2.2); (case side2 => exact (Kd.V_reads' HO0_0.out).2.1); (case side3 => exact qK (Kd.V_reads' HO0_1.out).2.2); (case side4 => exact (Kd.V_reads' HO0_1.out).2.1); rintro e w17 ⟨rfl, hb⟩; refine ⟨_, rfl, ?_⟩; have n0_ := Aside0.mk (Kd.V_below (qV HO0_0.out) hb); have n1_ := Aside0.mk (Kd.V_below (qV HO0_1.out) hb); have n2_ := wB BK405 hb; have n3_ := wB BK406 hb; have n4_ := wH hb; clear HO0_0; clear HO0_1; clear BK405; clear BK406; clear HB; have HO0_0 := n0_; have HO0_1 := n1_; have BK405 := n2_; have BK406 := n3_; have HB := n4_; clear n0_ n1_ n2_ n3_ n4_; (try clear hb); (try clear hb2); (try clear hk); (try clear hi)))
   go_meet
   case rel => exact ⟨_, (true), eY, H', ⟨by first | omega | exact Nat.le_refl _⟩, ⟨by (with_reducible repeat (first | apply Kd.V_alloc | apply Kd.V_drewN | apply Kd.V_drew)); exact Kd.V_mono HO0_0.out (fun _ hk => ⟨hk.1.1, ⟨hk.1.2, hk.2⟩⟩)⟩, ⟨by (with_reducible repeat (first | apply Kd.V_alloc | apply Kd.V_drewN | apply Kd.V_drew)); exact Kd.V_mono HO0_1.out (fun _ hk => ⟨hk.1.1, ⟨hk.1.2, hk.2⟩⟩)⟩, ⟨qB BK405⟩, ⟨qB BK406⟩, ⟨qH⟩⟩
 case rest =>
  clear HC4
  (try clear p2)
  obtain ⟨kq, x8_3, rfl, HA, HJ3, HO_406000, HO_406001, BK405, BK406, HB⟩ := hcut
  cases kq with
  | zero => exact absurd HA.out (by simp [disk_Put.j0])
  | succ kj3 =>
   have H := HA.out
   clear HA
   simp only [disk_Put.j0] at H
   by_cases c18 : x8_3 = true
   ·subst c18
    rw [if_pos rfl] at H
    simp only [Option.some.injEq, Prod.mk.injEq] at H
    obtain ⟨rfl, rfl, rfl⟩ := H
    obtain ⟨hnb19, hnc19⟩ := nn_ NB405_406
    obtain ⟨hcz20_0, hcz20_1, hfz20_0, hfz20_1⟩ := e2_ BK405
    obtain ⟨hcz21_0, hcz21_1, hfz21_0, hfz21_1⟩ := e2_ BK406
    go_wp2
    refine bodyPost_ret (results_ct rfl _ _ gb406 25 #[.slice A0_0 l0_0.length c0_0, .slice A0_1 l0_1.length c0_1] (0, 0) _ rfl (by (with_reducible repeat (first | apply xN_ | apply xD_ | apply xA_)); refine blk_put (cs := #[.slice A0_0 l0_0.length c0_0, .slice none 0 0]) ?_ 1 _ rfl; refine blk_put (cs := #[.slice none 0 0, .slice none 0 0]) ?_ 0 _ rfl; (with_reducible repeat (first | apply xN_ | apply xD_ | apply xA_)); exact BK406.out) Try.underlying25 rfl (by kernel_rfl)) rfl ?_
    exact ⟨_, _, eX, by (with_reducible repeat (first | apply Kd.V_alloc | apply Kd.V_drewN | apply Kd.V_drew)); exact Kd.V_mono (vG2 (g := gb406) HO_406000.out (fun _ hk => hk.2.2)) (fun _ hk => hk.1.1), by (with_reducible repeat (first | apply Kd.V_alloc | apply Kd.V_drewN | apply Kd.V_drew)); exact Kd.V_mono (vG2 (g := gb406) HO_406001.out (fun _ hk => hk.2.2)) (fun _ hk => hk.1.1), qH⟩
   ·replace c18 := Bool.eq_false_iff.mpr c18
    subst c18
    rw [if_neg nF_] at H
    by_cases c22 : (a2.size : Int) > 32
    ·rw [if_pos c22] at H
     have c22b0 : decide (32 < (a2.size : Int)) = true := decide_eq_true c22
     have c22b1 : decide (32 < a2.size) = true := decide_eq_true (by omega)
     clear c22
     simp only [Option.some.injEq, Prod.mk.injEq] at H
     obtain ⟨rfl, rfl, rfl⟩ := H
     obtain ⟨hnb23, hnc23⟩ := nn_ NB405_406
     obtain ⟨hcz24_0, hcz24_1, hfz24_0, hfz24_1⟩ := e2_ BK405
     obtain ⟨hcz25_0, hcz25_1, hfz25_0, hfz25_1⟩ := e2_ BK406
     go_wp2
     refine bodyPost_ret (results_ct rfl _ _ gb406 25 #[.slice A0_0 l0_0.length c0_0, .slice A0_1 l0_1.length c0_1] (0, 0) _ rfl (by (with_reducible repeat (first | apply xN_ | apply xD_ | apply xA_)); refine blk_put (cs := #[.slice A0_0 l0_0.length c0_0, .slice none 0 0]) ?_ 1 _ rfl; refine blk_put (cs := #[.slice none 0 0, .slice none 0 0]) ?_ 0 _ rfl; (with_reducible repeat (first | apply xN_ | apply xD_ | apply xA_)); exact BK406.out) Try.underlying25 rfl (by kernel_rfl)) rfl ?_
     exact ⟨_, _, eX, by (with_reducible repeat (first | apply Kd.V_alloc | apply Kd.V_drewN | apply Kd.V_drew)); exact Kd.V_mono (vG2 (g := gb406) HO_406000.out (fun _ hk => hk.2.2)) (fun _ hk => hk.1.1), by (with_reducible repeat (first | apply Kd.V_alloc | apply Kd.V_drewN | apply Kd.V_drew)); exact Kd.V_mono (vG2 (g := gb406) HO_406001.out (fun _ hk => hk.2.2)) (fun _ hk => hk.1.1), qH⟩
    ·rw [if_neg c22] at H
     have c22b0 : decide (32 < (a2.size : Int)) = false := decide_eq_false c22
     have c22b1 : decide (32 < a2.size) = false := decide_eq_false (by omega)
     clear c22
     by_cases c26 : ([] : List (S29)).length + l0_1.length < 5864062014805
     ·rw [if_pos c26] at H
      have LMc26 := Aside0.mk c26
      clear c26
      obtain ⟨y409, hy409⟩ : ∃ y_ : List (S29), y_ = (([] : List (S29)) ++ l0_1) := ⟨_, rfl⟩
      replace H : ((disk_filled.f a2).bind fun t412 => (if y409.length < 5864062014805 then (some (l0_0, (y409 ++ [(⟨a1, t412⟩ : S29)]), 0)) else (none))) = some (r1, r2, r3) := by first | (rw [hy409]; with_reducible exact H) | (have H2_ := (Option.bind_some _ _).symm.trans H; rw [hy409]; with_reducible exact H2_) | (have H2_ := (Option.bind_some _ _).symm.trans H; with_reducible exact H2_) | with_reducible exact H | (rw [hy409]; exact H) | exact H
      have Ny409 := Aside0.mk hy409
      clear hy409
      replace H := Option.bind_eq_some_iff.mp H
      obtain ⟨t412, A270, H⟩ := H
      try dsimp only at H
      have A27 := Aside0.mk A270
      clear A270
      by_cases c28 : y409.length < 5864062014805
      ·rw [if_pos c28] at H
       have LMc28 := Aside0.mk c28
       clear c28
       obtain ⟨y413, hy413⟩ : ∃ y_ : List (S29), y_ = (y409 ++ [(⟨a1, t412⟩ : S29)]) := ⟨_, rfl⟩
       replace H : (some (l0_0, y413, 0)) = some (r1, r2, r3) := by first | (rw [hy413]; with_reducible exact H) | (have H2_ := (Option.bind_some _ _).symm.trans H; rw [hy413]; with_reducible exact H2_) | (have H2_ := (Option.bind_some _ _).symm.trans H; with_reducible exact H2_) | with_reducible exact H | (rw [hy413]; exact H) | exact H
       have Ny413 := Aside0.mk hy413
       clear hy413
       simp only [Option.some.injEq, Prod.mk.injEq] at H
       obtain ⟨rfl, rfl, rfl⟩ := H
       obtain ⟨hnb29, hnc29⟩ := nn_ NB405_406
       obtain ⟨hcz30_0, hcz30_1, hfz30_0, hfz30_1⟩ := e2_ BK405
       go_wp2_with (first | ((with_reducible refine gate_builtin (b := .append) (xs := #[.const (.slice none 0 0), .tmp 25]) rfl ?_); at_builtin; refine Kd.R_append_rows k29 (w0 := w) w.heap.size rfl (.const (.slice none 0 0)) (.tmp 25) 23 29 (.agg #[(.int .i64 0), (.string ⟨#[]⟩)]) 24 rfl Try.underlying23 info29 rfl (by decide) (by omega) (.slice none 0 0) ([] : List (S29)) l0_1 _ _ _ (fun k_ => (w.heap.size ≤ k_)) (fun _ => False) rfl rfl ?aO ?aR (fun _ _ h => h) (fun _ h => h.elim) ?aF ?aB ?aS ?aL ?_; (case aR => repeat (first | exact (Kd.V_reads' HO_406001.out).2.2 | (with_reducible refine Kd.C_alloc ?_ _) | (with_reducible refine Kd.C_drewN ?_ _) | (with_reducible refine Kd.C_drew ?_))); (case aB => exact qH); (case aF => exact (fun k_ hk => (Nat.le_trans (below_size qH) hk))); (case aO => exact ((Kd.R_nil _ _ _ _ (fun k_ => (w.heap.size ≤ k_))))); (case aS => exact (below_size qH)); (case aL => have := LMc26.out; omega); intro v410 w31 ho hb hg hat; rw [← Ny409.out] at ho; have n0_ := Aside0.mk (Kd.V_afterv (Kd.V_apart_nil (qV HO_406000.out)) hg hat); have n1_ := Aside0.mk (Kd.V_afterv (Kd.V_apart_nil (qV HO_406001.out)) hg hat); have n2_ := Aside0.mk (blk_grown (g := gb405) (o := .cells #[.slice A0_0 l0_0.length c0_0, .slice A0_1 l0_1.length c0_1] 25 (0, 0)) (qB BK405) hg (by simp [Value.ownBlock])); have n3_ := Aside0.mk (blk_grown (g := gb406) (o := .cells #[.slice none 0 0, .slice none 0 0] 25 (0, 0)) (qB BK406) hg (by simp [Value.ownBlock])); have n4_ := Aside0.mk (hb); have n5_ := Aside0.mk (ho); clear HO_406000; clear HO_406001; clear BK405; clear BK406; clear HB; have HO_406000 := n0_; have HO_406001 := n1_; have BK405 := n2_; have BK406 := n3_; have HB := n4_; have HO411 := n5_; clear n0_ n1_ n2_ n3_ n4_ n5_; clear ho hb hg hat) | ((with_reducible refine gate_callee (f := 31) rfl ?_); refine gL (some 29) Try.func31 #[.string a2] ?_; (with_reducible refine (disk_filled.calls a2 t412 _ A27.out).mono ?_); rintro e w32 ⟨rfl, hb⟩; refine ⟨_, rfl, ?_⟩; have n0_ := Aside0.mk (Kd.V_below (qV HO_406000.out) hb); have n1_ := Aside0.mk (Kd.V_below (qV HO_406001.out) hb); have n2_ := Aside0.mk (Kd.R_below (qR HO411.out) hb); have n3_ := wB BK405 hb; have n4_ := wB BK406 hb; have n5_ := wH hb; clear HO_406000; clear HO_406001; clear HO411; clear BK405; clear BK406; clear HB; have HO_406000 := n0_; have HO_406001 := n1_; have HO411 := n2_; have BK405 := n3_; have BK406 := n4_; have HB := n5_; clear n0_ n1_ n2_ n3_ n4_ n5_; (try clear hb); (try clear hb2); (try clear hk); (try clear hi)) | ((with_reducible refine gate_builtin (b := .append) (xs := #[.tmp 26, .tmp 31]) rfl ?_); at_builtin; refine Kd.R_append k29 (w0 := w) w.heap.size rfl (.tmp 26) (.tmp 31) 23 29 (.agg #[(.int .i64 0), (.string ⟨#[]⟩)]) 24 rfl Try.underlying23 info29 rfl (by decide) (by omega) v410 y409 (⟨a1, t412⟩ : S29) [.int .i64 a1, .string t412] (fun k_ => (w.heap.size ≤ k_)) (fun _ => False) rfl rfl ?aP (fun _ hk => hk.elim) ?aF ?aO ?aB ?aS ?aL ?_; (case aP => exact k29_mkM _ _ _ (⟨a1, t412⟩ : S29)); (case aB => exact qH); (case aF => exact (fun k_ hk => (Nat.le_trans (below_size qH) hk))); (case aO => exact (qR HO411.out)); (case aS => exact (below_size qH)); (case aL => have := LMc28.out; omega); intro v414 w33 ho hb hg hat; rw [← Ny413.out] at ho; have n0_ := Aside0.mk (Kd.V_afterv (ok := (fun k_ => ((P0_0_ k_ ∨ P0_1_ k_) ∨ w.heap.size ≤ k_) ∧ k_ ≠ gb405 ∧ k_ ≠ gb406)) (by (with_reducible repeat (first | apply Kd.V_alloc | apply Kd.V_drewN | apply Kd.V_drew)); first | exact HO_406000.out | exact Kd.V_mono HO_406000.out (fun _ hk => ⟨⟨hk.1, hk.2.2⟩, hk.2.1⟩)) hg hat); have n1_ := Aside0.mk (Kd.V_afterv (ok := (fun k_ => ((P0_0_ k_ ∨ P0_1_ k_) ∨ w.heap.size ≤ k_) ∧ k_ ≠ gb405 ∧ k_ ≠ gb406)) (by (with_reducible repeat (first | apply Kd.V_alloc | apply Kd.V_drewN | apply Kd.V_drew)); first | exact HO_406001.out | exact Kd.V_mono HO_406001.out (fun _ hk => ⟨⟨hk.1, hk.2.2⟩, hk.2.1⟩)) hg hat); have n2_ := Aside0.mk (blk_grown (g := gb405) (o := .cells #[.slice A0_0 l0_0.length c0_0, .slice A0_1 l0_1.length c0_1] 25 (0, 0)) (qB BK405) hg (Kd.R_ne HO411.out BK405.out (by decide))); have n3_ := Aside0.mk (blk_grown (g := gb406) (o := .cells #[.slice none 0 0, .slice none 0 0] 25 (0, 0)) (qB BK406) hg (Kd.R_ne HO411.out BK406.out (by decide))); have n4_ := Aside0.mk (hb); have n5_ := Aside0.mk (ho); clear HO_406000; clear HO_406001; clear BK405; clear BK406; clear HB; clear HO411; have HO_406000 := n0_; have BK405 := n2_; have BK406 := n3_; have HB := n4_; have HO415 := n5_; clear n0_ n1_ n2_ n3_ n4_ n5_; clear ho hb hg hat; obtain ⟨Ao34, co34, eo34⟩ := Kd.R_slice HO415.out; subst eo34; obtain ⟨hcz35_0, hcz35_1, hfz35_0, hfz35_1⟩ := e2_ BK405; obtain ⟨hcz36_0, hcz36_1, hfz36_0, hfz36_1⟩ := e2_ BK406))
       refine bodyPost_ret (results_ct rfl _ _ gb406 25 #[.slice A0_0 l0_0.length c0_0, .slice Ao34 y413.length co34] (0, 0) _ rfl (by (with_reducible repeat (first | apply xN_ | apply xD_ | apply xA_)); refine blk_put (cs := #[.slice A0_0 l0_0.length c0_0, .slice none 0 0]) ?_ 1 _ rfl; refine blk_put (cs := #[.slice none 0 0, .slice none 0 0]) ?_ 0 _ rfl; refine xR_ ?_ NB406_405.out _; (with_reducible repeat (first | apply xN_ | apply xD_ | apply xA_)); exact BK406.out) Try.underlying25 rfl (by kernel_rfl)) rfl ?_
       exact ⟨_, _, eX, by (with_reducible repeat (first | apply Kd.V_alloc | apply Kd.V_drewN | apply Kd.V_drew)); exact Kd.V_mono (Kd.V_far (p := ⟨gb406, 1, none⟩) (Kd.V_far (p := ⟨gb406, 0, none⟩) (Kd.V_far (p := ⟨gb405, 1, none⟩) (Kd.V_mono (Kd.V_mono HO_406000.out (fun k_ hk => (⟨hk, hk.1.2.1⟩ : _ ∧ k_ ≠ gb405))) (fun k_ hk => (⟨hk, hk.1.1.2.2⟩ : _ ∧ k_ ≠ gb406))) (fun _ hk => hk.1.2) (.slice Ao34 y413.length co34)) (fun _ hk => hk.2) (.slice A0_0 l0_0.length c0_0)) (fun _ hk => hk.2) (.slice Ao34 y413.length co34)) (fun _ hk => hk.1.1.1.1), Kd.V_mono (Kd.R_V (qR (Kd.R_mono (Kd.R_far (p := ⟨gb406, 1, none⟩) (Kd.R_far (p := ⟨gb406, 0, none⟩) (Kd.R_far (p := ⟨gb405, 1, none⟩) (Kd.R_types (Kd.R_types HO415.out BK405.out (by decide)) BK406.out (by decide)) (fun _ hk => hk.1.2) (.slice Ao34 y413.length co34)) (fun _ hk => hk.2) (.slice A0_0 l0_0.length c0_0)) (fun _ hk => hk.2) (.slice Ao34 y413.length co34)) (fun _ hk => hk.1.1)))) (fun k_ hk => by first | exact ⟨(.inr (hk.1)), hk.2⟩ | exact (.inr (hk))), qH⟩
      ·rw [if_neg c28] at H
       exact absurd H (by simp)
     ·rw [if_neg c26] at H
      exact absurd H (by simp)
mutual
def armadaref03_Text.j0 : Nat → Bool → Int → Int → Int → Int → Int → Option (ByteArray × Bool)
 | 0, _, _, _, _, _, _ => none
 | k + 1, x11, x499000, x499001, x499002, x499003, x499004 => if x11 = true then (some ((⟨#[]⟩ : ByteArray), false)) else (if x499001 < 0 then (armadaref03_Text.j1 k true x499000 x499001 x499002 x499003 x499004) else (if x499001 > 1073741824 then (armadaref03_Text.j1 k true x499000 x499001 x499002 x499003 x499004) else (if x499002 < 0 then (armadaref03_Text.j1 k true x499000 x499001 x499002 x499003 x499004) else (if x499002 > 65535 then (armadaref03_Text.j1 k true x499000 x499001 x499002 x499003 x499004) else (if x499003 < 0 then (armadaref03_Text.j1 k true x499000 x499001 x499002 x499003 x499004) else (if x499003 > 4096 then (armadaref03_Text.j1 k true x499000 x499001 x499002 x499003 x499004) else ((armadaref02_Is.f x499004).bind fun t499 => (armadaref03_Text.j1 k (!t499) x499000 x499001 x499002 x499003 x499004))))))))
def armadaref03_Text.j1 : Nat → Bool → Int → Int → Int → Int → Int → Option (ByteArray × Bool)
 | 0, _, _, _, _, _, _ => none
 | k + 1, x45, x499000, x499001, x499002, x499003, x499004 => if x45 = true then (some ((⟨#[]⟩ : ByteArray), false)) else ((some (([(x499000) % 256] : List Int) : List Int)).bind fun y500 => (if 1 + (strOfNums y500).size ≤ 9223372036854775807 then ((armadaref03_four.f x499001).bind fun t503 => (if ((⟨#[72]⟩ : ByteArray) ++ (strOfNums y500)).size + t503.size ≤ 9223372036854775807 then ((armadaref03_four.f x499002).bind fun t504 => (if (((⟨#[72]⟩ : ByteArray) ++ (strOfNums y500)) ++ t503).size + t504.size ≤ 9223372036854775807 then ((armadaref03_four.f x499003).bind fun t505 => (if ((((⟨#[72]⟩ : ByteArray) ++ (strOfNums y500)) ++ t503) ++ t504).size + t505.size ≤ 9223372036854775807 then ((armadaref03_four.f x499004).bind fun t506 => (if (((((⟨#[72]⟩ : ByteArray) ++ (strOfNums y500)) ++ t503) ++ t504) ++ t505).size + t506.size ≤ 9223372036854775807 then ((armadaref03_fill.f k ((((((⟨#[72]⟩ : ByteArray) ++ (strOfNums y500)) ++ t503) ++ t504) ++ t505) ++ t506)).bind fun t507 => (some (t507, true))) else (none))) else (none))) else (none))) else (none))) else (none)))
end
def armadaref03_Text.f (k : Nat) (a0_0 : Int) (a0_1 : Int) (a0_2 : Int) (a0_3 : Int) (a0_4 : Int) : Option (ByteArray × Bool) := if a0_0 = 1 then (armadaref03_Text.j0 k false a0_0 a0_1 a0_2 a0_3 a0_4) else (armadaref03_Text.j0 k (a0_0 != 2) a0_0 a0_1 a0_2 a0_3 a0_4)
theorem armadaref03_Text.mono_l : ∀ k, (∀ y0 y1 y2 y3 y4 y5, LeO (armadaref03_Text.j0 k y0 y1 y2 y3 y4 y5) (armadaref03_Text.j0 (k + 1) y0 y1 y2 y3 y4 y5)) ∧ (∀ y0 y1 y2 y3 y4 y5, LeO (armadaref03_Text.j1 k y0 y1 y2 y3 y4 y5) (armadaref03_Text.j1 (k + 1) y0 y1 y2 y3 y4 y5))
 | 0 => ⟨fun _ _ _ _ _ _ r h => by simp [armadaref03_Text.j0] at h, fun _ _ _ _ _ _ r h => by simp [armadaref03_Text.j1] at h⟩
 | k + 1 => by
  obtain ⟨ih0, ih1⟩ := armadaref03_Text.mono_l k
  refine ⟨?_, ?_⟩
  ·intro y0 y1 y2 y3 y4 y5
   unfold armadaref03_Text.j0
   repeat' first
   | (with_reducible exact ih0 _ _ _ _ _ _)
   | (with_reducible exact ih1 _ _ _ _ _ _)
   | (with_reducible exact armadaref03_fill.mono _ _)
   | (with_reducible exact LeO.refl _)
   | (with_reducible exact LeO.none _)
   | (with_reducible refine LeO.ite ?_ ?_)
   | (with_reducible refine LeO.bind ?_ (fun _ => ?_))
   | exact ih0 _ _ _ _ _ _
   | exact ih1 _ _ _ _ _ _
   | exact armadaref03_fill.mono _ _
   | exact LeO.none _
   | refine LeO.ite ?_ ?_
   | refine LeO.bind ?_ (fun _ => ?_)
  ·intro y0 y1 y2 y3 y4 y5
   unfold armadaref03_Text.j1
   repeat' first
   | (with_reducible exact ih0 _ _ _ _ _ _)
   | (with_reducible exact ih1 _ _ _ _ _ _)
   | (with_reducible exact armadaref03_fill.mono _ _)
   | (with_reducible exact LeO.refl _)
   | (with_reducible exact LeO.none _)
   | (with_reducible refine LeO.ite ?_ ?_)
   | (with_reducible refine LeO.bind ?_ (fun _ => ?_))
   | exact ih0 _ _ _ _ _ _
   | exact ih1 _ _ _ _ _ _
   | exact armadaref03_fill.mono _ _
   | exact LeO.none _
   | refine LeO.ite ?_ ?_
   | refine LeO.bind ?_ (fun _ => ?_)
theorem armadaref03_Text.mono : ∀ a0 a1 a2 a3 a4 k, LeO (armadaref03_Text.f k a0 a1 a2 a3 a4) (armadaref03_Text.f (k + 1) a0 a1 a2 a3 a4) := by
 intro a0 a1 a2 a3 a4 k
 obtain ⟨ih0, ih1⟩ := armadaref03_Text.mono_l k
 unfold armadaref03_Text.f
 repeat' first
   | (with_reducible exact ih0 _ _ _ _ _ _)
   | (with_reducible exact ih1 _ _ _ _ _ _)
   | (with_reducible exact armadaref03_fill.mono _ _)
   | (with_reducible exact LeO.refl _)
   | (with_reducible exact LeO.none _)
   | (with_reducible refine LeO.ite ?_ ?_)
   | (with_reducible refine LeO.bind ?_ (fun _ => ?_))
   | exact ih0 _ _ _ _ _ _
   | exact ih1 _ _ _ _ _ _
   | exact armadaref03_fill.mono _ _
   | exact LeO.none _
   | refine LeO.ite ?_ ?_
   | refine LeO.bind ?_ (fun _ => ?_)
def armadaref03_Read.f (k : Nat) (a0 : ByteArray) : Option (Int × Int × Int × Int × Int × Bool) := if (a0.size : Int) = 32 then (if 1 < (a0.size : Int) then ((armadaref03_number.f a0 2).bind fun t509 => ((armadaref03_number.f a0 6).bind fun t510 => ((armadaref03_number.f a0 10).bind fun t511 => ((armadaref03_number.f a0 14).bind fun t512 => ((armadaref03_Text.f k (wrap64 (bt a0 1)) t509 t510 t511 t512).bind fun bt514 => (if bt514.2 = true then (if bt514.1.toList = a0.toList then (some (wrap64 (bt a0 1), t509, t510, t511, t512, true)) else (some (0, 0, 0, 0, 0, false))) else (some (0, 0, 0, 0, 0, false)))))))) else (none)) else (some (0, 0, 0, 0, 0, false))
theorem armadaref03_Read.mono : ∀ a0 k, LeO (armadaref03_Read.f k a0) (armadaref03_Read.f (k + 1) a0) := by
 intro a0 k
 unfold armadaref03_Read.f
 repeat' first
   | (with_reducible exact armadaref03_Text.mono _ _ _ _ _ _)
   | (with_reducible exact LeO.refl _)
   | (with_reducible exact LeO.none _)
   | (with_reducible refine LeO.ite ?_ ?_)
   | (with_reducible refine LeO.bind ?_ (fun _ => ?_))
   | exact armadaref03_Text.mono _ _ _ _ _ _
   | exact LeO.none _
   | refine LeO.ite ?_ ?_
   | refine LeO.bind ?_ (fun _ => ?_)
def armadaref03_Read.B3 : List Nat := [0, 1, 3, 0, 8, 0, 56, 0, 248, 0, 1016, 2047, 0, 8191]
end Go.Proofs.Ythoddglnfdmdeaa.P
