/- Printed functions, merged. -/
import Derived.Test.YtnoafmnjnmlhmaaZDRM0
import Derived.Test.YtnoafmnjnmlhmaaZDRKFilled
import Derived.Test.YtnoafmnjnmlhmaaZDRKSh
import Derived.Test.YtnoafmnjnmlhmaaZDRM1
import Derived.Test.YtnoafmnjnmlhmaaZDRAl
namespace Go.Proofs.Ytnoafmnjnmlhmaa.P
open Go.RowKit Go.Proofs.YtnoafmnjnmlhmaaW.PrintWords Go.Proofs.YtnoafmnjnmlhmaaW.PrintLast Go.Proofs.YtnoafmnjnmlhmaaW.PrintMore
attribute [local go_sem] max2_int min2_int max_two min_two max_three min_three max_four min_four   -- for this text's walks alone
set_option linter.unusedVariables false
set_option linter.unusedSimpArgs false
def disk_Put.j0 : Nat → Int → ByteArray → Bool → List ByteArray → List (S27) → Option (List ByteArray × (List (S27)) × Int)
 | 0, _, _, _, _, _ => none
 | k + 1, x1, x2, x8, x114000, x114001 => if x8 = true then (some (x114000, x114001, 1)) else (if (x2.size : Int) > 32 then (some (x114000, x114001, 2)) else (if ([] : List (S27)).length + x114001.length < 5864062014805 then ((some (([] : List (S27)) ++ x114001 : List (S27))).bind fun y117 => ((disk_filled.f x2).bind fun t120 => (if y117.length < 5864062014805 then (some (x114000, (y117 ++ [(⟨x1, t120⟩ : S27)]), 0)) else (none)))) else (none)))
def disk_Put.f (k : Nat) (l0_0 : List ByteArray) (l0_1 : List (S27)) (a1 : Int) (a2 : ByteArray) : Option (List ByteArray × (List (S27)) × Int) := (disk_May.f k l0_0 l0_1).bind fun t115 => (if t115 = true then ((disk_is.f l0_0 l0_1 a1).bind fun t116 => (disk_Put.j0 k a1 a2 (!t116) l0_0 l0_1)) else (disk_Put.j0 k a1 a2 true l0_0 l0_1))
theorem disk_Put.mono_l : ∀ k, (∀ y0 y1 y2 y3 y4, LeO (disk_Put.j0 k y0 y1 y2 y3 y4) (disk_Put.j0 (k + 1) y0 y1 y2 y3 y4))
 | 0 => fun _ _ _ _ _ r h => by simp [disk_Put.j0] at h
 | k + 1 => by
  have ih0 := disk_Put.mono_l k
  ·intro y0 y1 y2 y3 y4
   unfold disk_Put.j0
   repeat' first
   | (with_reducible exact ih0 _ _ _ _ _)
   | (with_reducible exact disk_May.mono _ _ _)
   | (with_reducible exact LeO.refl _)
   | (with_reducible exact LeO.none _)
   | (with_reducible refine LeO.ite ?_ ?_)
   | (with_reducible refine LeO.bind ?_ (fun _ => ?_))
   | exact ih0 _ _ _ _ _
   | exact disk_May.mono _ _ _
   | exact LeO.none _
   | refine LeO.ite ?_ ?_
   | refine LeO.bind ?_ (fun _ => ?_)
theorem disk_Put.mono : ∀ a0 a1 a2 a3 k, LeO (disk_Put.f k a0 a1 a2 a3) (disk_Put.f (k + 1) a0 a1 a2 a3) := by
 intro a0 a1 a2 a3 k
 have ih0 := disk_Put.mono_l k
 unfold disk_Put.f
 repeat' first
   | (with_reducible exact ih0 _ _ _ _ _)
   | (with_reducible exact disk_May.mono _ _ _)
   | (with_reducible exact LeO.refl _)
   | (with_reducible exact LeO.none _)
   | (with_reducible refine LeO.ite ?_ ?_)
   | (with_reducible refine LeO.bind ?_ (fun _ => ?_))
   | exact ih0 _ _ _ _ _
   | exact disk_May.mono _ _ _
   | exact LeO.none _
   | refine LeO.ite ?_ ?_
   | refine LeO.bind ?_ (fun _ => ?_)
set_option maxHeartbeats 8000000 in
set_option maxRecDepth 100000 in
theorem disk_Put.calls (k : Nat) (P0_0_ : Nat → Prop) (A0_0 : Option Addr) (c0_0 : Nat) (l0_0 : List ByteArray) (P0_1_ : Nat → Prop) (A0_1 : Option Addr) (c0_1 : Nat) (l0_1 : List (S27)) (a1 : Int) (a2 : ByteArray) (r1 : List ByteArray) (r2 : List (S27)) (r3 : Int) (w : World) (hs0_0 : Kd.V Kd.string 9 w w.heap.size (fun k_ => P0_0_ k_) (.slice A0_0 l0_0.length c0_0) l0_0) (hs0_1 : Kd.V k27 27 w w.heap.size (fun k_ => P0_1_ k_) (.slice A0_1 l0_1.length c0_1) l0_1) (h : disk_Put.f k l0_0 l0_1 a1 a2 = some (r1, r2, r3)) :
  Calls Try.prog 11 #[.agg #[.slice A0_0 l0_0.length c0_0, .slice A0_1 l0_1.length c0_1], .int .i64 a1, .string a2] w fun e w' => ∃ v0_ v1_ : Value, e = .returned (.tuple #[.agg #[v0_, v1_], .int .i64 r3]) ∧ Kd.V Kd.string 9 w' w.heap.size (fun k_ => ((P0_0_ k_ ∨ P0_1_ k_) ∨ w.heap.size ≤ k_)) v0_ r1 ∧ Kd.V k27 27 w' w.heap.size (fun k_ => ((P0_0_ k_ ∨ P0_1_ k_) ∨ w.heap.size ≤ k_)) v1_ r2 ∧ Below w.heap.size w w' := by
 have hu25 := Try.underlying25
 have hu27 := Try.underlying27
 have HO0_0 := Aside0.mk (show Kd.V Kd.string 9 w w.heap.size (fun k_ => ((P0_0_ k_ ∨ P0_1_ k_) ∨ w.heap.size ≤ k_)) (.slice A0_0 l0_0.length c0_0) l0_0 from Kd.V_mono hs0_0 (fun k_ hk => .inl (.inl hk)))
 have HO0_1 := Aside0.mk (show Kd.V k27 27 w w.heap.size (fun k_ => ((P0_0_ k_ ∨ P0_1_ k_) ∨ w.heap.size ≤ k_)) (.slice A0_1 l0_1.length c0_1) l0_1 from Kd.V_mono hs0_1 (fun k_ hk => .inl (.inr hk)))
 have HB := Aside0.mk (Below.refl w.heap.size w)
 have H : ((disk_May.f k l0_0 l0_1).bind fun t115 => (if t115 = true then ((disk_is.f l0_0 l0_1 a1).bind fun t116 => (disk_Put.j0 k a1 a2 (!t116) l0_0 l0_1)) else (disk_Put.j0 k a1 a2 true l0_0 l0_1))) = some (r1, r2, r3) := h
 clear h
 have HC4 := Aside0.mk H
 clear H
 go_enter Try.func11, Try.ntmps11
 go_upto_region 1 with (first | ((with_reducible refine gate_dst (N := 3) rfl ?_); refine box_event ?hg (N := 3) ?hd (cs := #[.slice A0_0 l0_0.length c0_0, .slice A0_1 l0_1.length c0_1]) (t := 25) ?hr ?_; (case hd => rfl); (case hg => rfl); (case hr => first | (go_simp; done) | (go_simp; rfl)); intro gb113 hg w5 hbox hb; have n0_ := Aside0.mk (Kd.V_below (Kd.V_elderB (by (with_reducible repeat (first | apply Kd.V_alloc | apply Kd.V_drewN | apply Kd.V_drew)); exact HO0_0.out) gb113 (Nat.le_of_eq hg.symm)) hb); have n1_ := Aside0.mk (Kd.V_below (Kd.V_elderB (by (with_reducible repeat (first | apply Kd.V_alloc | apply Kd.V_drewN | apply Kd.V_drew)); exact HO0_1.out) gb113 (Nat.le_of_eq hg.symm)) hb); have n2_ := Aside0.mk (below_step (by repeat (first | (with_reducible first | exact HB.out | apply yA_ | apply yN_ | apply yD_) | exact HB.out)) hb); have n3_ := Aside0.mk (hbox); have n4_ := Aside0.mk ((by rw [hg]; exact (below_size (by repeat (first | (with_reducible first | exact HB.out | apply yA_ | apply yN_ | apply yD_) | exact HB.out))) : w.heap.size ≤ gb113)); have n5_ := Aside0.mk ((by rw [hg]; exact (below_size (by repeat (first | (with_reducible first | exact HB.out | apply yA_ | apply yN_ | apply yD_) | exact HB.out))) : w.heap.size ≤ gb113)); clear HO0_0; clear HO0_1; clear HB; have HO0_0 := n0_; have HO0_1 := n1_; have HB := n2_; have BK113 := n3_; have GW113 := n4_; have GE113 := n5_; clear n0_ n1_ n2_ n3_ n4_ n5_; clear hb hbox hg) | ((with_reducible refine gate_dst (N := 6) rfl ?_); refine box_event ?hg (N := 6) ?hd (cs := #[.slice none 0 0, .slice none 0 0]) (t := 25) ?hr ?_; (case hd => rfl); (case hg => rfl); (case hr => first | (go_simp; done) | (go_simp; rfl)); intro gb114 hg w6 hbox hb; have n0_ := Aside0.mk (Kd.V_below (Kd.V_elderB (by (with_reducible repeat (first | apply Kd.V_alloc | apply Kd.V_drewN | apply Kd.V_drew)); exact HO0_0.out) gb114 (Nat.le_of_eq hg.symm)) hb); have n1_ := Aside0.mk (Kd.V_below (Kd.V_elderB (by (with_reducible repeat (first | apply Kd.V_alloc | apply Kd.V_drewN | apply Kd.V_drew)); exact HO0_1.out) gb114 (Nat.le_of_eq hg.symm)) hb); have n2_ := Aside0.mk (blk_below (g := gb113) (o := .cells #[.slice A0_0 l0_0.length c0_0, .slice A0_1 l0_1.length c0_1] 25 (0, 0)) (by (with_reducible repeat (first | apply xN_ | apply xD_ | apply xA_)); exact BK113.out) hb); have n3_ := Aside0.mk (below_step (by repeat (first | (with_reducible first | exact HB.out | apply yA_ | apply yN_ | apply yD_ | refine yS_ ?_ GE113.out) | exact HB.out)) hb); have n4_ := Aside0.mk (hbox); have n5_ := Aside0.mk ((by rw [hg]; exact (below_size (by repeat (first | (with_reducible first | exact HB.out | apply yA_ | apply yN_ | apply yD_ | refine yS_ ?_ GE113.out) | exact HB.out))) : w.heap.size ≤ gb114)); have n6_ := Aside0.mk ((by rw [hg]; exact (below_size (by repeat (first | (with_reducible first | exact HB.out | apply yA_ | apply yN_ | apply yD_ | refine yS_ ?_ GE113.out) | exact HB.out))) : w.heap.size ≤ gb114)); have n7_ := Aside0.mk ((by rw [hg]; exact Nat.ne_of_lt (blk_lt (g := gb113) (o := .cells #[.slice A0_0 l0_0.length c0_0, .slice A0_1 l0_1.length c0_1] 25 (0, 0)) (by (with_reducible repeat (first | apply xN_ | apply xD_ | apply xA_)); exact BK113.out)) : gb113 ≠ gb114)); have n8_ := Aside0.mk ((by rw [hg]; exact Nat.ne_of_gt (blk_lt (g := gb113) (o := .cells #[.slice A0_0 l0_0.length c0_0, .slice A0_1 l0_1.length c0_1] 25 (0, 0)) (by (with_reducible repeat (first | apply xN_ | apply xD_ | apply xA_)); exact BK113.out)) : gb114 ≠ gb113)); clear HO0_0; clear HO0_1; clear BK113; clear HB; have HO0_0 := n0_; have HO0_1 := n1_; have BK113 := n2_; have HB := n3_; have BK114 := n4_; have GW114 := n5_; have GE114 := n6_; have NB113_114 := n7_; have NB114_113 := n8_; clear n0_ n1_ n2_ n3_ n4_ n5_ n6_ n7_ n8_; clear hb hbox hg))
 (try simp only [Act.put, List.setIfInBounds_toArray, List.set_cons_zero, List.set_cons_succ])
 go_cut [8] (fun v8 wc => ∃ (kq : Nat) (x8_3 : Bool), v8 = .bool x8_3 ∧ Aside0 (disk_Put.j0 kq a1 a2 x8_3 l0_0 l0_1 = some (r1, r2, r3)) ∧ Aside0 (kq ≤ k) ∧ Aside0 (Kd.V Kd.string 9 wc w.heap.size (fun k_ => ((P0_0_ k_ ∨ P0_1_ k_) ∨ w.heap.size ≤ k_) ∧ k_ ≠ gb113 ∧ k_ ≠ gb114) (.slice A0_0 l0_0.length c0_0) l0_0) ∧ Aside0 (Kd.V k27 27 wc w.heap.size (fun k_ => ((P0_0_ k_ ∨ P0_1_ k_) ∨ w.heap.size ≤ k_) ∧ k_ ≠ gb113 ∧ k_ ≠ gb114) (.slice A0_1 l0_1.length c0_1) l0_1) ∧ Aside0 (wc.heap[gb113]? = some (.cells #[(.slice A0_0 l0_0.length c0_0), (.slice A0_1 l0_1.length c0_1)] 25 (0, 0))) ∧ Aside0 (wc.heap[gb114]? = some (.cells #[(.slice none 0 0), (.slice none 0 0)] 25 (0, 0))) ∧ Aside0 (Below w.heap.size w wc))
 case first =>
  have H := HC4.out
  clear HC4
  replace H := Option.bind_eq_some_iff.mp H
  obtain ⟨t115, A70, H⟩ := H
  replace H : (if t115 = true then ((disk_is.f l0_0 l0_1 a1).bind fun t116 => (disk_Put.j0 k a1 a2 (!t116) l0_0 l0_1)) else (disk_Put.j0 k a1 a2 true l0_0 l0_1)) = some (r1, r2, r3) := H
  have A7 := Aside0.mk A70
  clear A70
  by_cases c8 : t115 = true
  ·subst c8
   have H1 : ((disk_is.f l0_0 l0_1 a1).bind fun t116 => (disk_Put.j0 k a1 a2 (!t116) l0_0 l0_1)) = some (r1, r2, r3) := by rw [if_pos rfl] at H; exact H
   clear H
   have H := H1
   clear H1
   replace H := Option.bind_eq_some_iff.mp H
   obtain ⟨t116, A90, H⟩ := H
   replace H : (disk_Put.j0 k a1 a2 (!t116) l0_0 l0_1) = some (r1, r2, r3) := H
   have A9 := Aside0.mk A90
   clear A90
   have H' := Aside0.mk H
   clear H
   have hnb10 := NB113_114.out
   have hnc10 := NB114_113.out
   have hcz11_0 : w6.cell? ⟨gb113, 0, none⟩ = some (.slice A0_0 l0_0.length c0_0) := (xC_ BK113.out 0).trans rfl
   have hcz11_1 : w6.cell? ⟨gb113, 1, none⟩ = some (.slice A0_1 l0_1.length c0_1) := (xC_ BK113.out 1).trans rfl
   have hfz11_0 := xF_ BK113.out 0
   have hfz11_1 := xF_ BK113.out 1
   go_wp2_with (first | ((with_reducible refine gate_callee (f := 16) rfl ?_); refine goesL_ (some 10) rfl rfl Try.func16 (by kernel_rfl) rfl #[.agg #[.slice A0_0 l0_0.length c0_0, .slice A0_1 l0_1.length c0_1]] rfl (by (try simp only [List.map_toArray, List.map_cons, List.map_nil]); first | done | rfl) ?_; (with_reducible refine (disk_May.calls k _ _ l0_0 _ _ l0_1 true _ ?side1 ?side2 ?side3 ?side4 A7.out).mono ?_); (case side1 => repeat (first | exact (Kd.V_reads' HO0_0.out).2.2 | (with_reducible refine Kd.C_alloc ?_ _) | (with_reducible refine Kd.C_drewN ?_ _) | (with_reducible refine Kd.C_drew ?_))); (case side2 => exact (Kd.V_reads' HO0_0.out).2.1); (case side3 => repeat (first | exact (Kd.V_reads' HO0_1.out).2.2 | (with_reducible refine Kd.C_alloc ?_ _) | (with_reducible refine Kd.C_drewN ?_ _) | (with_reducible refine Kd.C_drew ?_))); (case side4 => exact (Kd.V_reads' HO0_1.out).2.1); rintro e w12 ⟨rfl, hb⟩; refine ⟨_, rfl, ?_⟩; have n0_ := Aside0.mk (Kd.V_below (by (with_reducible repeat (first | apply Kd.V_alloc | apply Kd.V_drewN | apply Kd.V_drew)); exact HO0_0.out) hb); have n1_ := Aside0.mk (Kd.V_below (by (with_reducible repeat (first | apply Kd.V_alloc | apply Kd.V_drewN | apply Kd.V_drew)); exact HO0_1.out) hb); have n2_ := Aside0.mk (blk_below (g := gb113) (o := .cells #[.slice A0_0 l0_0.length c0_0, .slice A0_1 l0_1.length c0_1] 25 (0, 0)) (by (with_reducible repeat (first | apply xN_ | apply xD_ | apply xA_)); exact BK113.out) hb); have n3_ := Aside0.mk (blk_below (g := gb114) (o := .cells #[.slice none 0 0, .slice none 0 0] 25 (0, 0)) (by (with_reducible repeat (first | apply xN_ | apply xD_ | apply xA_)); exact BK114.out) hb); have n4_ := Aside0.mk (below_step (by repeat (first | (with_reducible first | exact HB.out | apply yA_ | apply yN_ | apply yD_ | refine yS_ ?_ GE113.out | refine yS_ ?_ GE114.out) | exact HB.out)) hb); clear HO0_0; clear HO0_1; clear BK113; clear BK114; clear HB; have HO0_0 := n0_; have HO0_1 := n1_; have BK113 := n2_; have BK114 := n3_; have HB := n4_; clear n0_ n1_ n2_ n3_ n4_; (try clear hb); (try clear hb2); (try clear hk); (try clear hi); have hcz13_0 : w12.cell? ⟨gb113, 0, none⟩ = some (.slice A0_0 l0_0.length c0_0) := (xC_ BK113.out 0).trans rfl; have hcz13_1 : w12.cell? ⟨gb113, 1, none⟩ = some (.slice A0_1 l0_1.length c0_1) := (xC_ BK113.out 1).trans rfl; have hfz13_0 := xF_ BK113.out 0; have hfz13_1 := xF_ BK113.out 1) | (go_at_call 28; (with_reducible refine (disk_is.calls _ _ l0_0 _ _ l0_1 a1 t116 _ ?side1 ?side2 ?side3 ?side4 A9.out).mono ?_); (case side1 => repeat (first | exact (Kd.V_reads' HO0_0.out).2.2 | (with_reducible refine Kd.C_alloc ?_ _) | (with_reducible refine Kd.C_drewN ?_ _) | (with_reducible refine Kd.C_drew ?_))); (case side2 => exact (Kd.V_reads' HO0_0.out).2.1); (case side3 => repeat (first | exact (Kd.V_reads' HO0_1.out).2.2 | (with_reducible refine Kd.C_alloc ?_ _) | (with_reducible refine Kd.C_drewN ?_ _) | (with_reducible refine Kd.C_drew ?_))); (case side4 => exact (Kd.V_reads' HO0_1.out).2.1); rintro e w14 ⟨rfl, hb⟩; have n0_ := Aside0.mk (Kd.V_below (by (with_reducible repeat (first | apply Kd.V_alloc | apply Kd.V_drewN | apply Kd.V_drew)); exact HO0_0.out) hb); have n1_ := Aside0.mk (Kd.V_below (by (with_reducible repeat (first | apply Kd.V_alloc | apply Kd.V_drewN | apply Kd.V_drew)); exact HO0_1.out) hb); have n2_ := Aside0.mk (blk_below (g := gb113) (o := .cells #[.slice A0_0 l0_0.length c0_0, .slice A0_1 l0_1.length c0_1] 25 (0, 0)) (by (with_reducible repeat (first | apply xN_ | apply xD_ | apply xA_)); exact BK113.out) hb); have n3_ := Aside0.mk (blk_below (g := gb114) (o := .cells #[.slice none 0 0, .slice none 0 0] 25 (0, 0)) (by (with_reducible repeat (first | apply xN_ | apply xD_ | apply xA_)); exact BK114.out) hb); have n4_ := Aside0.mk (below_step (by repeat (first | (with_reducible first | exact HB.out | apply yA_ | apply yN_ | apply yD_ | refine yS_ ?_ GE113.out | refine yS_ ?_ GE114.out) | exact HB.out)) hb); clear HO0_0; clear HO0_1; clear BK113; clear BK114; clear HB; have HO0_0 := n0_; have HO0_1 := n1_; have BK113 := n2_; have BK114 := n3_; have HB := n4_; clear n0_ n1_ n2_ n3_ n4_; (try clear hb); (try clear hb2); (try clear hk); (try clear hi)))
   go_meet
   case rel => exact ⟨_, (!t116), (by first | rfl | (simp; done) | (simp [*]; done)), H', ⟨by first | omega | exact Nat.le_refl _⟩, ⟨by (with_reducible repeat (first | apply Kd.V_alloc | apply Kd.V_drewN | apply Kd.V_drew)); exact Kd.V_mono HO0_0.out (fun _ hk => ⟨hk.1.1, ⟨hk.1.2, hk.2⟩⟩)⟩, ⟨by (with_reducible repeat (first | apply Kd.V_alloc | apply Kd.V_drewN | apply Kd.V_drew)); exact Kd.V_mono HO0_1.out (fun _ hk => ⟨hk.1.1, ⟨hk.1.2, hk.2⟩⟩)⟩, ⟨by (with_reducible repeat (first | apply xN_ | apply xD_ | apply xA_)); exact BK113.out⟩, ⟨by (with_reducible repeat (first | apply xN_ | apply xD_ | apply xA_)); exact BK114.out⟩, ⟨by repeat (first | (with_reducible first | exact HB.out | apply yA_ | apply yN_ | apply yD_ | refine yS_ ?_ GE113.out | refine yS_ ?_ GE114.out) | exact HB.out)⟩⟩
  ·replace c8 := Bool.eq_false_iff.mpr c8
   subst c8
   have H1 : (disk_Put.j0 k a1 a2 true l0_0 l0_1) = some (r1, r2, r3) := by rw [if_neg (show ¬ (false = true) by decide)] at H; exact H
   clear H
   have H := H1
   clear H1
   have H' := Aside0.mk H
   clear H
   have hnb15 := NB113_114.out
   have hnc15 := NB114_113.out
   have hcz16_0 : w6.cell? ⟨gb113, 0, none⟩ = some (.slice A0_0 l0_0.length c0_0) := (xC_ BK113.out 0).trans rfl
   have hcz16_1 : w6.cell? ⟨gb113, 1, none⟩ = some (.slice A0_1 l0_1.length c0_1) := (xC_ BK113.out 1).trans rfl
   have hfz16_0 := xF_ BK113.out 0
   have hfz16_1 := xF_ BK113.out 1
   go_wp2_with (first | ((with_reducible refine gate_callee (f := 16) rfl ?_); refine goesL_ (some 10) rfl rfl Try.func16 (by kernel_rfl) rfl #[.agg #[.slice A0_0 l0_0.length c0_0, .slice A0_1 l0_1.length c0_1]] rfl (by (try simp only [List.map_toArray, List.map_cons, List.map_nil]); first | done | rfl) ?_; (with_reducible refine (disk_May.calls k _ _ l0_0 _ _ l0_1 false _ ?side1 ?side2 ?side3 ?side4 A7.out).mono ?_); (case side1 => repeat (first | exact (Kd.V_reads' HO0_0.out).2.2 | (with_reducible refine Kd.C_alloc ?_ _) | (with_reducible refine Kd.C_drewN ?_ _) | (with_reducible refine Kd.C_drew ?_))); (case side2 => exact (Kd.V_reads' HO0_0.out).2.1); (case side3 => repeat (first | exact (Kd.V_reads' HO0_1.out).2.2 | (with_reducible refine Kd.C_alloc ?_ _) | (with_reducible refine Kd.C_drewN ?_ _) | (with_reducible refine Kd.C_drew ?_))); (case side4 => exact (Kd.V_reads' HO0_1.out).2.1); rintro e w17 ⟨rfl, hb⟩; refine ⟨_, rfl, ?_⟩; have n0_ := Aside0.mk (Kd.V_below (by (with_reducible repeat (first | apply Kd.V_alloc | apply Kd.V_drewN | apply Kd.V_drew)); exact HO0_0.out) hb); have n1_ := Aside0.mk (Kd.V_below (by (with_reducible repeat (first | apply Kd.V_alloc | apply Kd.V_drewN | apply Kd.V_drew)); exact HO0_1.out) hb); have n2_ := Aside0.mk (blk_below (g := gb113) (o := .cells #[.slice A0_0 l0_0.length c0_0, .slice A0_1 l0_1.length c0_1] 25 (0, 0)) (by (with_reducible repeat (first | apply xN_ | apply xD_ | apply xA_)); exact BK113.out) hb); have n3_ := Aside0.mk (blk_below (g := gb114) (o := .cells #[.slice none 0 0, .slice none 0 0] 25 (0, 0)) (by (with_reducible repeat (first | apply xN_ | apply xD_ | apply xA_)); exact BK114.out) hb); have n4_ := Aside0.mk (below_step (by repeat (first | (with_reducible first | exact HB.out | apply yA_ | apply yN_ | apply yD_ | refine yS_ ?_ GE113.out | refine yS_ ?_ GE114.out) | exact HB.out)) hb); clear HO0_0; clear HO0_1; clear BK113; clear BK114; clear HB; have HO0_0 := n0_; have HO0_1 := n1_; have BK113 := n2_; have BK114 := n3_; have HB := n4_; clear n0_ n1_ n2_ n3_ n4_; (try clear hb); (try clear hb2); (try clear hk); (try clear hi)))
   go_meet
   case rel => exact ⟨_, (true), (by first | rfl | (simp; done) | (simp [*]; done)), H', ⟨by first | omega | exact Nat.le_refl _⟩, ⟨by (with_reducible repeat (first | apply Kd.V_alloc | apply Kd.V_drewN | apply Kd.V_drew)); exact Kd.V_mono HO0_0.out (fun _ hk => ⟨hk.1.1, ⟨hk.1.2, hk.2⟩⟩)⟩, ⟨by (with_reducible repeat (first | apply Kd.V_alloc | apply Kd.V_drewN | apply Kd.V_drew)); exact Kd.V_mono HO0_1.out (fun _ hk => ⟨hk.1.1, ⟨hk.1.2, hk.2⟩⟩)⟩, ⟨by (with_reducible repeat (first | apply xN_ | apply xD_ | apply xA_)); exact BK113.out⟩, ⟨by (with_reducible repeat (first | apply xN_ | apply xD_ | apply xA_)); exact BK114.out⟩, ⟨by repeat (first | (with_reducible first | exact HB.out | apply yA_ | apply yN_ | apply yD_ | refine yS_ ?_ GE113.out | refine yS_ ?_ GE114.out) | exact HB.out)⟩⟩
 case rest =>
  clear HC4
  (try clear c1); (try clear p2); (try clear c8); (try clear c10); (try clear c11); (try clear c15); (try clear c16); (try clear hcz11_0); (try clear hcz11_1); (try clear hcz13_0)
  (try clear hcz13_1); (try clear hcz16_0); (try clear hcz16_1); (try clear hfz11_0); (try clear hfz11_1); (try clear hfz13_0); (try clear hfz13_1); (try clear hfz16_0)
  (try clear hfz16_1)
  obtain ⟨kq, x8_3, rfl, HA, HJ3, HO_114000, HO_114001, BK113, BK114, HB⟩ := hcut
  cases kq with
  | zero => exact absurd HA.out (by simp [disk_Put.j0])
  | succ kj3 =>
   have H := HA.out
   clear HA
   simp only [disk_Put.j0] at H
   by_cases c18 : x8_3 = true
   ·subst c18
    have H1 : (some (l0_0, l0_1, 1)) = some (r1, r2, r3) := by rw [if_pos rfl] at H; exact H
    clear H
    have H := H1
    clear H1
    simp only [Option.some.injEq, Prod.mk.injEq] at H
    obtain ⟨rfl, rfl, rfl⟩ := H
    have hnb19 := NB113_114.out
    have hnc19 := NB114_113.out
    have hcz20_0 : wc.cell? ⟨gb113, 0, none⟩ = some (.slice A0_0 l0_0.length c0_0) := (xC_ BK113.out 0).trans rfl
    have hcz20_1 : wc.cell? ⟨gb113, 1, none⟩ = some (.slice A0_1 l0_1.length c0_1) := (xC_ BK113.out 1).trans rfl
    have hfz20_0 := xF_ BK113.out 0
    have hfz20_1 := xF_ BK113.out 1
    have hcz21_0 : wc.cell? ⟨gb114, 0, none⟩ = some (.slice none 0 0) := (xC_ BK114.out 0).trans rfl
    have hcz21_1 : wc.cell? ⟨gb114, 1, none⟩ = some (.slice none 0 0) := (xC_ BK114.out 1).trans rfl
    have hfz21_0 := xF_ BK114.out 0
    have hfz21_1 := xF_ BK114.out 1
    go_wp2
    refine bodyPost_ret (results_ct rfl _ _ gb114 25 #[.slice A0_0 l0_0.length c0_0, .slice A0_1 l0_1.length c0_1] (0, 0) _ rfl (by (with_reducible repeat (first | apply xN_ | apply xD_ | apply xA_)); refine blk_put (cs := #[.slice A0_0 l0_0.length c0_0, .slice none 0 0]) ?_ 1 _ rfl; refine blk_put (cs := #[.slice none 0 0, .slice none 0 0]) ?_ 0 _ rfl; (with_reducible repeat (first | apply xN_ | apply xD_ | apply xA_)); exact BK114.out) Try.underlying25 rfl (by kernel_rfl)) rfl ?_
    exact ⟨_, _, by first | rfl | (simp [errW_none, errW_some] <;> rfl) | (simp [*, errW_none, errW_some] <;> rfl), by (with_reducible repeat (first | apply Kd.V_alloc | apply Kd.V_drewN | apply Kd.V_drew)); exact Kd.V_mono (Kd.V_far (p := ⟨gb114, 1, none⟩) (Kd.V_far (p := ⟨gb114, 0, none⟩) (Kd.V_mono HO_114000.out (fun k_ hk => (⟨hk, hk.2.2⟩ : _ ∧ k_ ≠ gb114))) (fun _ hk => hk.2) (.slice A0_0 l0_0.length c0_0)) (fun _ hk => hk.2) (.slice A0_1 l0_1.length c0_1)) (fun _ hk => hk.1.1), by (with_reducible repeat (first | apply Kd.V_alloc | apply Kd.V_drewN | apply Kd.V_drew)); exact Kd.V_mono (Kd.V_far (p := ⟨gb114, 1, none⟩) (Kd.V_far (p := ⟨gb114, 0, none⟩) (Kd.V_mono HO_114001.out (fun k_ hk => (⟨hk, hk.2.2⟩ : _ ∧ k_ ≠ gb114))) (fun _ hk => hk.2) (.slice A0_0 l0_0.length c0_0)) (fun _ hk => hk.2) (.slice A0_1 l0_1.length c0_1)) (fun _ hk => hk.1.1), by repeat (first | (with_reducible first | exact HB.out | apply yA_ | apply yN_ | apply yD_ | refine yS_ ?_ GE113.out | refine yS_ ?_ GE114.out) | exact HB.out)⟩
   ·replace c18 := Bool.eq_false_iff.mpr c18
    subst c18
    have H1 : (if (a2.size : Int) > 32 then (some (l0_0, l0_1, 2)) else (if ([] : List (S27)).length + l0_1.length < 5864062014805 then ((some (([] : List (S27)) ++ l0_1 : List (S27))).bind fun y117 => ((disk_filled.f a2).bind fun t120 => (if y117.length < 5864062014805 then (some (l0_0, (y117 ++ [(⟨a1, t120⟩ : S27)]), 0)) else (none)))) else (none))) = some (r1, r2, r3) := by rw [if_neg (show ¬ (false = true) by decide)] at H; exact H
    clear H
    have H := H1
    clear H1
    by_cases c22 : (a2.size : Int) > 32
    ·rw [if_pos c22] at H
     have c22b0 : decide (32 < (a2.size : Int)) = true := decide_eq_true c22
     have c22b1 : decide (32 < a2.size) = true := decide_eq_true (by omega)
     clear c22
     simp only [Option.some.injEq, Prod.mk.injEq] at H
     obtain ⟨rfl, rfl, rfl⟩ := H
     have hnb23 := NB113_114.out
     have hnc23 := NB114_113.out
     have hcz24_0 : wc.cell? ⟨gb113, 0, none⟩ = some (.slice A0_0 l0_0.length c0_0) := (xC_ BK113.out 0).trans rfl
     have hcz24_1 : wc.cell? ⟨gb113, 1, none⟩ = some (.slice A0_1 l0_1.length c0_1) := (xC_ BK113.out 1).trans rfl
     have hfz24_0 := xF_ BK113.out 0
     have hfz24_1 := xF_ BK113.out 1
     have hcz25_0 : wc.cell? ⟨gb114, 0, none⟩ = some (.slice none 0 0) := (xC_ BK114.out 0).trans rfl
     have hcz25_1 : wc.cell? ⟨gb114, 1, none⟩ = some (.slice none 0 0) := (xC_ BK114.out 1).trans rfl
     have hfz25_0 := xF_ BK114.out 0
     have hfz25_1 := xF_ BK114.out 1
     go_wp2
     refine bodyPost_ret (results_ct rfl _ _ gb114 25 #[.slice A0_0 l0_0.length c0_0, .slice A0_1 l0_1.length c0_1] (0, 0) _ rfl (by (with_reducible repeat (first | apply xN_ | apply xD_ | apply xA_)); refine blk_put (cs := #[.slice A0_0 l0_0.length c0_0, .slice none 0 0]) ?_ 1 _ rfl; refine blk_put (cs := #[.slice none 0 0, .slice none 0 0]) ?_ 0 _ rfl; (with_reducible repeat (first | apply xN_ | apply xD_ | apply xA_)); exact BK114.out) Try.underlying25 rfl (by kernel_rfl)) rfl ?_
     exact ⟨_, _, by first | rfl | (simp [errW_none, errW_some] <;> rfl) | (simp [*, errW_none, errW_some] <;> rfl), by (with_reducible repeat (first | apply Kd.V_alloc | apply Kd.V_drewN | apply Kd.V_drew)); exact Kd.V_mono (Kd.V_far (p := ⟨gb114, 1, none⟩) (Kd.V_far (p := ⟨gb114, 0, none⟩) (Kd.V_mono HO_114000.out (fun k_ hk => (⟨hk, hk.2.2⟩ : _ ∧ k_ ≠ gb114))) (fun _ hk => hk.2) (.slice A0_0 l0_0.length c0_0)) (fun _ hk => hk.2) (.slice A0_1 l0_1.length c0_1)) (fun _ hk => hk.1.1), by (with_reducible repeat (first | apply Kd.V_alloc | apply Kd.V_drewN | apply Kd.V_drew)); exact Kd.V_mono (Kd.V_far (p := ⟨gb114, 1, none⟩) (Kd.V_far (p := ⟨gb114, 0, none⟩) (Kd.V_mono HO_114001.out (fun k_ hk => (⟨hk, hk.2.2⟩ : _ ∧ k_ ≠ gb114))) (fun _ hk => hk.2) (.slice A0_0 l0_0.length c0_0)) (fun _ hk => hk.2) (.slice A0_1 l0_1.length c0_1)) (fun _ hk => hk.1.1), by repeat (first | (with_reducible first | exact HB.out | apply yA_ | apply yN_ | apply yD_ | refine yS_ ?_ GE113.out | refine yS_ ?_ GE114.out) | exact HB.out)⟩
    ·rw [if_neg c22] at H
     have c22b0 : decide (32 < (a2.size : Int)) = false := decide_eq_false c22
     have c22b1 : decide (32 < a2.size) = false := decide_eq_false (by omega)
     clear c22
     by_cases c26 : ([] : List (S27)).length + l0_1.length < 5864062014805
     ·rw [if_pos c26] at H
      have LMc26 := Aside0.mk c26
      clear c26
      obtain ⟨y117, hy117⟩ : ∃ y_ : List (S27), y_ = (([] : List (S27)) ++ l0_1) := ⟨_, rfl⟩
      replace H : ((disk_filled.f a2).bind fun t120 => (if y117.length < 5864062014805 then (some (l0_0, (y117 ++ [(⟨a1, t120⟩ : S27)]), 0)) else (none))) = some (r1, r2, r3) := by first | (rw [hy117]; with_reducible exact H) | (have H2_ := (Option.bind_some _ _).symm.trans H; rw [hy117]; with_reducible exact H2_) | (have H2_ := (Option.bind_some _ _).symm.trans H; with_reducible exact H2_) | with_reducible exact H | (rw [hy117]; exact H) | exact H
      have Ny117 := Aside0.mk hy117
      clear hy117
      replace H := Option.bind_eq_some_iff.mp H
      obtain ⟨t120, A270, H⟩ := H
      replace H : (if y117.length < 5864062014805 then (some (l0_0, (y117 ++ [(⟨a1, t120⟩ : S27)]), 0)) else (none)) = some (r1, r2, r3) := H
      have A27 := Aside0.mk A270
      clear A270
      by_cases c28 : y117.length < 5864062014805
      ·rw [if_pos c28] at H
       have LMc28 := Aside0.mk c28
       clear c28
       obtain ⟨y121, hy121⟩ : ∃ y_ : List (S27), y_ = (y117 ++ [(⟨a1, t120⟩ : S27)]) := ⟨_, rfl⟩
       replace H : (some (l0_0, y121, 0)) = some (r1, r2, r3) := by first | (rw [hy121]; with_reducible exact H) | (have H2_ := (Option.bind_some _ _).symm.trans H; rw [hy121]; with_reducible exact H2_) | (have H2_ := (Option.bind_some _ _).symm.trans H; with_reducible exact H2_) | with_reducible exact H | (rw [hy121]; exact H) | exact H
       have Ny121 := Aside0.mk hy121
       clear hy121
       simp only [Option.some.injEq, Prod.mk.injEq] at H
       obtain ⟨rfl, rfl, rfl⟩ := H
       have hnb29 := NB113_114.out
       have hnc29 := NB114_113.out
       have hcz30_0 : wc.cell? ⟨gb113, 0, none⟩ = some (.slice A0_0 l0_0.length c0_0) := (xC_ BK113.out 0).trans rfl
       have hcz30_1 : wc.cell? ⟨gb113, 1, none⟩ = some (.slice A0_1 l0_1.length c0_1) := (xC_ BK113.out 1).trans rfl
       have hfz30_0 := xF_ BK113.out 0
       have hfz30_1 := xF_ BK113.out 1
       go_wp2_with (first | ((with_reducible refine gate_builtin (b := .append) (xs := #[.const (.slice none 0 0), .tmp 25]) rfl ?_); at_builtin; refine Kd.R_append_rows k27 (w0 := w) w.heap.size rfl (.const (.slice none 0 0)) (.tmp 25) 23 27 (.agg #[(.int .i64 0), (.string ⟨#[]⟩)]) 24 rfl Try.underlying23 info27 rfl (by decide) (by omega) (.slice none 0 0) ([] : List (S27)) l0_1 _ _ _ (fun k_ => (w.heap.size ≤ k_)) (fun _ => False) rfl rfl ?aO ?aR (fun _ _ h => h) (fun _ h => h.elim) ?aF ?aB ?aS ?aL ?_; (case aR => repeat (first | exact (Kd.V_reads' HO_114001.out).2.2 | (with_reducible refine Kd.C_alloc ?_ _) | (with_reducible refine Kd.C_drewN ?_ _) | (with_reducible refine Kd.C_drew ?_))); (case aB => exact (by repeat (first | (with_reducible first | exact HB.out | apply yA_ | apply yN_ | apply yD_ | refine yS_ ?_ GE113.out | refine yS_ ?_ GE114.out) | exact HB.out))); (case aF => exact (fun k_ hk => (Nat.le_trans (below_size (by repeat (first | (with_reducible first | exact HB.out | apply yA_ | apply yN_ | apply yD_ | refine yS_ ?_ GE113.out | refine yS_ ?_ GE114.out) | exact HB.out))) hk))); (case aO => exact ((Kd.R_nil _ _ _ _ (fun k_ => (w.heap.size ≤ k_))))); (case aS => exact (below_size (by repeat (first | (with_reducible first | exact HB.out | apply yA_ | apply yN_ | apply yD_ | refine yS_ ?_ GE113.out | refine yS_ ?_ GE114.out) | exact HB.out)))); (case aL => have := LMc26.out; omega); intro v118 w31 ho hb hg hat; rw [← Ny117.out] at ho; have n0_ := Aside0.mk (Kd.V_afterv (Kd.V_apart_nil (by (with_reducible repeat (first | apply Kd.V_alloc | apply Kd.V_drewN | apply Kd.V_drew)); exact HO_114000.out)) hg hat); have n1_ := Aside0.mk (Kd.V_afterv (Kd.V_apart_nil (by (with_reducible repeat (first | apply Kd.V_alloc | apply Kd.V_drewN | apply Kd.V_drew)); exact HO_114001.out)) hg hat); have n2_ := Aside0.mk (blk_grown (g := gb113) (o := .cells #[.slice A0_0 l0_0.length c0_0, .slice A0_1 l0_1.length c0_1] 25 (0, 0)) (by (with_reducible repeat (first | apply xN_ | apply xD_ | apply xA_)); exact BK113.out) hg (by simp [Value.ownBlock])); have n3_ := Aside0.mk (blk_grown (g := gb114) (o := .cells #[.slice none 0 0, .slice none 0 0] 25 (0, 0)) (by (with_reducible repeat (first | apply xN_ | apply xD_ | apply xA_)); exact BK114.out) hg (by simp [Value.ownBlock])); have n4_ := Aside0.mk (hb); have n5_ := Aside0.mk (ho); clear HO_114000; clear HO_114001; clear BK113; clear BK114; clear HB; have HO_114000 := n0_; have HO_114001 := n1_; have BK113 := n2_; have BK114 := n3_; have HB := n4_; have HO119 := n5_; clear n0_ n1_ n2_ n3_ n4_ n5_; clear ho hb hg hat) | ((with_reducible refine gate_callee (f := 29) rfl ?_); refine goesL_ (some 29) rfl rfl Try.func29 (by kernel_rfl) rfl #[.string a2] rfl (by (try simp only [List.map_toArray, List.map_cons, List.map_nil]); first | done | rfl) ?_; (with_reducible refine (disk_filled.calls a2 t120 _ A27.out).mono ?_); rintro e w32 ⟨rfl, hb⟩; refine ⟨_, rfl, ?_⟩; have n0_ := Aside0.mk (Kd.V_below (by (with_reducible repeat (first | apply Kd.V_alloc | apply Kd.V_drewN | apply Kd.V_drew)); exact HO_114000.out) hb); have n1_ := Aside0.mk (Kd.V_below (by (with_reducible repeat (first | apply Kd.V_alloc | apply Kd.V_drewN | apply Kd.V_drew)); exact HO_114001.out) hb); have n2_ := Aside0.mk (Kd.R_below (by (with_reducible repeat (first | apply Kd.R_alloc | apply Kd.R_drewN | apply Kd.R_drew)); exact HO119.out) hb); have n3_ := Aside0.mk (blk_below (g := gb113) (o := .cells #[.slice A0_0 l0_0.length c0_0, .slice A0_1 l0_1.length c0_1] 25 (0, 0)) (by (with_reducible repeat (first | apply xN_ | apply xD_ | apply xA_)); exact BK113.out) hb); have n4_ := Aside0.mk (blk_below (g := gb114) (o := .cells #[.slice none 0 0, .slice none 0 0] 25 (0, 0)) (by (with_reducible repeat (first | apply xN_ | apply xD_ | apply xA_)); exact BK114.out) hb); have n5_ := Aside0.mk (below_step (by repeat (first | (with_reducible first | exact HB.out | apply yA_ | apply yN_ | apply yD_ | refine yS_ ?_ GE113.out | refine yS_ ?_ GE114.out) | exact HB.out)) hb); clear HO_114000; clear HO_114001; clear HO119; clear BK113; clear BK114; clear HB; have HO_114000 := n0_; have HO_114001 := n1_; have HO119 := n2_; have BK113 := n3_; have BK114 := n4_; have HB := n5_; clear n0_ n1_ n2_ n3_ n4_ n5_; (try clear hb); (try clear hb2); (try clear hk); (try clear hi)) | ((with_reducible refine gate_builtin (b := .append) (xs := #[.tmp 26, .tmp 31]) rfl ?_); at_builtin; refine Kd.R_append k27 (w0 := w) w.heap.size rfl (.tmp 26) (.tmp 31) 23 27 (.agg #[(.int .i64 0), (.string ⟨#[]⟩)]) 24 rfl Try.underlying23 info27 rfl (by decide) (by omega) v118 y117 (⟨a1, t120⟩ : S27) [.int .i64 a1, .string t120] (fun k_ => (w.heap.size ≤ k_)) (fun _ => False) rfl rfl ?aP (fun _ hk => hk.elim) ?aF ?aO ?aB ?aS ?aL ?_; (case aP => exact k27_mkM _ _ _ (⟨a1, t120⟩ : S27)); (case aB => exact (by repeat (first | (with_reducible first | exact HB.out | apply yA_ | apply yN_ | apply yD_ | refine yS_ ?_ GE113.out | refine yS_ ?_ GE114.out) | exact HB.out))); (case aF => exact (fun k_ hk => (Nat.le_trans (below_size (by repeat (first | (with_reducible first | exact HB.out | apply yA_ | apply yN_ | apply yD_ | refine yS_ ?_ GE113.out | refine yS_ ?_ GE114.out) | exact HB.out))) hk))); (case aO => exact (by (with_reducible repeat (first | apply Kd.R_alloc | apply Kd.R_drewN | apply Kd.R_drew)); exact HO119.out)); (case aS => exact (below_size (by repeat (first | (with_reducible first | exact HB.out | apply yA_ | apply yN_ | apply yD_ | refine yS_ ?_ GE113.out | refine yS_ ?_ GE114.out) | exact HB.out)))); (case aL => have := LMc28.out; omega); intro v122 w33 ho hb hg hat; rw [← Ny121.out] at ho; have n0_ := Aside0.mk (Kd.V_afterv (ok := (fun k_ => ((P0_0_ k_ ∨ P0_1_ k_) ∨ w.heap.size ≤ k_) ∧ k_ ≠ gb113 ∧ k_ ≠ gb114)) (by (with_reducible repeat (first | apply Kd.V_alloc | apply Kd.V_drewN | apply Kd.V_drew)); first | exact HO_114000.out | exact Kd.V_mono HO_114000.out (fun _ hk => ⟨⟨hk.1, hk.2.2⟩, hk.2.1⟩)) hg hat); have n1_ := Aside0.mk (Kd.V_afterv (ok := (fun k_ => ((P0_0_ k_ ∨ P0_1_ k_) ∨ w.heap.size ≤ k_) ∧ k_ ≠ gb113 ∧ k_ ≠ gb114)) (by (with_reducible repeat (first | apply Kd.V_alloc | apply Kd.V_drewN | apply Kd.V_drew)); first | exact HO_114001.out | exact Kd.V_mono HO_114001.out (fun _ hk => ⟨⟨hk.1, hk.2.2⟩, hk.2.1⟩)) hg hat); have n2_ := Aside0.mk (blk_grown (g := gb113) (o := .cells #[.slice A0_0 l0_0.length c0_0, .slice A0_1 l0_1.length c0_1] 25 (0, 0)) (by (with_reducible repeat (first | apply xN_ | apply xD_ | apply xA_)); exact BK113.out) hg (Kd.R_ne HO119.out BK113.out (by decide))); have n3_ := Aside0.mk (blk_grown (g := gb114) (o := .cells #[.slice none 0 0, .slice none 0 0] 25 (0, 0)) (by (with_reducible repeat (first | apply xN_ | apply xD_ | apply xA_)); exact BK114.out) hg (Kd.R_ne HO119.out BK114.out (by decide))); have n4_ := Aside0.mk (hb); have n5_ := Aside0.mk (ho); clear HO_114000; clear HO_114001; clear BK113; clear BK114; clear HB; clear HO119; have HO_114000 := n0_; have HO_114001 := n1_; have BK113 := n2_; have BK114 := n3_; have HB := n4_; have HO123 := n5_; clear n0_ n1_ n2_ n3_ n4_ n5_; clear ho hb hg hat; obtain ⟨Ao34, co34, eo34⟩ := Kd.R_slice HO123.out; subst eo34; have hcz35_0 : w33.cell? ⟨gb113, 0, none⟩ = some (.slice A0_0 l0_0.length c0_0) := (xC_ BK113.out 0).trans rfl; have hcz35_1 : w33.cell? ⟨gb113, 1, none⟩ = some (.slice A0_1 l0_1.length c0_1) := (xC_ BK113.out 1).trans rfl; have hfz35_0 := xF_ BK113.out 0; have hfz35_1 := xF_ BK113.out 1; have hcz36_0 : w33.cell? ⟨gb114, 0, none⟩ = some (.slice none 0 0) := (xC_ BK114.out 0).trans rfl; have hcz36_1 : w33.cell? ⟨gb114, 1, none⟩ = some (.slice none 0 0) := (xC_ BK114.out 1).trans rfl; have hfz36_0 := xF_ BK114.out 0; have hfz36_1 := xF_ BK114.out 1))
       refine bodyPost_ret (results_ct rfl _ _ gb114 25 #[.slice A0_0 l0_0.length c0_0, .slice Ao34 y121.length co34] (0, 0) _ rfl (by (with_reducible repeat (first | apply xN_ | apply xD_ | apply xA_)); refine blk_put (cs := #[.slice A0_0 l0_0.length c0_0, .slice none 0 0]) ?_ 1 _ rfl; refine blk_put (cs := #[.slice none 0 0, .slice none 0 0]) ?_ 0 _ rfl; refine xR_ ?_ NB114_113.out _; (with_reducible repeat (first | apply xN_ | apply xD_ | apply xA_)); exact BK114.out) Try.underlying25 rfl (by kernel_rfl)) rfl ?_
       exact ⟨_, _, by first | rfl | (simp [errW_none, errW_some] <;> rfl) | (simp [*, errW_none, errW_some] <;> rfl), by (with_reducible repeat (first | apply Kd.V_alloc | apply Kd.V_drewN | apply Kd.V_drew)); exact Kd.V_mono (Kd.V_far (p := ⟨gb114, 1, none⟩) (Kd.V_far (p := ⟨gb114, 0, none⟩) (Kd.V_far (p := ⟨gb113, 1, none⟩) (Kd.V_mono (Kd.V_mono HO_114000.out (fun k_ hk => (⟨hk, hk.1.2.1⟩ : _ ∧ k_ ≠ gb113))) (fun k_ hk => (⟨hk, hk.1.1.2.2⟩ : _ ∧ k_ ≠ gb114))) (fun _ hk => hk.1.2) (.slice Ao34 y121.length co34)) (fun _ hk => hk.2) (.slice A0_0 l0_0.length c0_0)) (fun _ hk => hk.2) (.slice Ao34 y121.length co34)) (fun _ hk => hk.1.1.1.1), Kd.V_mono (Kd.R_V (by (with_reducible repeat (first | apply Kd.R_alloc | apply Kd.R_drewN | apply Kd.R_drew)); exact Kd.R_mono (Kd.R_far (p := ⟨gb114, 1, none⟩) (Kd.R_far (p := ⟨gb114, 0, none⟩) (Kd.R_far (p := ⟨gb113, 1, none⟩) (Kd.R_types (Kd.R_types HO123.out BK113.out (by decide)) BK114.out (by decide)) (fun _ hk => hk.1.2) (.slice Ao34 y121.length co34)) (fun _ hk => hk.2) (.slice A0_0 l0_0.length c0_0)) (fun _ hk => hk.2) (.slice Ao34 y121.length co34)) (fun _ hk => hk.1.1))) (fun k_ hk => by first | exact ⟨(.inr (hk.1)), hk.2⟩ | exact (.inr (hk))), by repeat (first | (with_reducible first | exact HB.out | apply yA_ | apply yN_ | apply yD_ | refine yS_ ?_ GE113.out | refine yS_ ?_ GE114.out) | exact HB.out)⟩
      ·rw [if_neg c28] at H
       exact absurd H (by simp)
     ·rw [if_neg c26] at H
      exact absurd H (by simp)
mutual
def armadaref01_Run.l0 : Nat → List (S49) → Int → Int → List ByteArray → List (S27) → List ByteArray → List (S27) → Option (List ByteArray × (List (S27)) × Int)
 | 0, _, _, _, _, _, _, _ => none
 | k + 1, x1, x2, x9, x459000, x459001, x461000, x461001 => if x9 < (x1.length : Int) then (armadaref01_Run.j1 k x1 x2 x9 (decide (x9 < x2)) x459000 x459001 x461000 x461001) else (armadaref01_Run.j1 k x1 x2 x9 false x459000 x459001 x461000 x461001)
def armadaref01_Run.j1 : Nat → List (S49) → Int → Int → Bool → List ByteArray → List (S27) → List ByteArray → List (S27) → Option (List ByteArray × (List (S27)) × Int)
 | 0, _, _, _, _, _, _, _, _ => none
 | k + 1, x1, x2, x9, x28, x459000, x459001, x461000, x461001 => if x28 = true then (if 0 ≤ x9 then (if x9 < (x1.length : Int) then (if (rd_T49 x1 x9).f0 = true then ((armadaref01_Flush.f k x461000 x461001).bind fun bt463 => (if 0 = 0 then (armadaref01_Run.l0 k x1 x2 (wrap64 (x9 + 1)) x459000 x459001 bt463.1 bt463.2.1) else (some (x459000, x459001, 0)))) else ((armadaref01_Put.f k x461000 x461001 ((rd_T49 x1 x9).f1) ((rd_T49 x1 x9).f2)).bind fun bt473 => (if bt473.2.2 = 0 then (armadaref01_Run.l0 k x1 x2 (wrap64 (x9 + 1)) x459000 x459001 bt473.1 bt473.2.1) else (some (x459000, x459001, bt473.2.2))))) else (none)) else (none)) else (some (x461000, x461001, 0))
end
def armadaref01_Run.f (k : Nat) (l0_0 : List ByteArray) (l0_1 : List (S27)) (l1 : List (S49)) (a2 : Int) : Option (List ByteArray × (List (S27)) × Int) := (armadaref01_May.f k l0_0 l0_1).bind fun t461 => (if t461 = true then (armadaref01_Run.l0 k l1 a2 0 l0_0 l0_1 l0_0 l0_1) else (some (l0_0, l0_1, 1)))
theorem armadaref01_Run.mono_l : ∀ k, (∀ y0 y1 y2 y3 y4 y5 y6, LeO (armadaref01_Run.l0 k y0 y1 y2 y3 y4 y5 y6) (armadaref01_Run.l0 (k + 1) y0 y1 y2 y3 y4 y5 y6)) ∧ (∀ y0 y1 y2 y3 y4 y5 y6 y7, LeO (armadaref01_Run.j1 k y0 y1 y2 y3 y4 y5 y6 y7) (armadaref01_Run.j1 (k + 1) y0 y1 y2 y3 y4 y5 y6 y7))
 | 0 => ⟨fun _ _ _ _ _ _ _ r h => by simp [armadaref01_Run.l0] at h, fun _ _ _ _ _ _ _ _ r h => by simp [armadaref01_Run.j1] at h⟩
 | k + 1 => by
  obtain ⟨ih0, ih1⟩ := armadaref01_Run.mono_l k
  refine ⟨?_, ?_⟩
  ·intro y0 y1 y2 y3 y4 y5 y6
   unfold armadaref01_Run.l0
   repeat' first
   | (with_reducible exact ih0 _ _ _ _ _ _ _)
   | (with_reducible exact ih1 _ _ _ _ _ _ _ _)
   | (with_reducible exact armadaref01_Flush.mono _ _ _)
   | (with_reducible exact armadaref01_May.mono _ _ _)
   | (with_reducible exact armadaref01_Put.mono _ _ _ _ _)
   | (with_reducible exact LeO.refl _)
   | (with_reducible exact LeO.none _)
   | (with_reducible refine LeO.ite ?_ ?_)
   | (with_reducible refine LeO.bind ?_ (fun _ => ?_))
   | exact ih0 _ _ _ _ _ _ _
   | exact ih1 _ _ _ _ _ _ _ _
   | exact armadaref01_Flush.mono _ _ _
   | exact armadaref01_May.mono _ _ _
   | exact armadaref01_Put.mono _ _ _ _ _
   | exact LeO.none _
   | refine LeO.ite ?_ ?_
   | refine LeO.bind ?_ (fun _ => ?_)
  ·intro y0 y1 y2 y3 y4 y5 y6 y7
   unfold armadaref01_Run.j1
   repeat' first
   | (with_reducible exact ih0 _ _ _ _ _ _ _)
   | (with_reducible exact ih1 _ _ _ _ _ _ _ _)
   | (with_reducible exact armadaref01_Flush.mono _ _ _)
   | (with_reducible exact armadaref01_May.mono _ _ _)
   | (with_reducible exact armadaref01_Put.mono _ _ _ _ _)
   | (with_reducible exact LeO.refl _)
   | (with_reducible exact LeO.none _)
   | (with_reducible refine LeO.ite ?_ ?_)
   | (with_reducible refine LeO.bind ?_ (fun _ => ?_))
   | exact ih0 _ _ _ _ _ _ _
   | exact ih1 _ _ _ _ _ _ _ _
   | exact armadaref01_Flush.mono _ _ _
   | exact armadaref01_May.mono _ _ _
   | exact armadaref01_Put.mono _ _ _ _ _
   | exact LeO.none _
   | refine LeO.ite ?_ ?_
   | refine LeO.bind ?_ (fun _ => ?_)
theorem armadaref01_Run.mono : ∀ a0 a1 a2 a3 k, LeO (armadaref01_Run.f k a0 a1 a2 a3) (armadaref01_Run.f (k + 1) a0 a1 a2 a3) := by
 intro a0 a1 a2 a3 k
 obtain ⟨ih0, ih1⟩ := armadaref01_Run.mono_l k
 unfold armadaref01_Run.f
 repeat' first
   | (with_reducible exact ih0 _ _ _ _ _ _ _)
   | (with_reducible exact ih1 _ _ _ _ _ _ _ _)
   | (with_reducible exact armadaref01_Flush.mono _ _ _)
   | (with_reducible exact armadaref01_May.mono _ _ _)
   | (with_reducible exact armadaref01_Put.mono _ _ _ _ _)
   | (with_reducible exact LeO.refl _)
   | (with_reducible exact LeO.none _)
   | (with_reducible refine LeO.ite ?_ ?_)
   | (with_reducible refine LeO.bind ?_ (fun _ => ?_))
   | exact ih0 _ _ _ _ _ _ _
   | exact ih1 _ _ _ _ _ _ _ _
   | exact armadaref01_Flush.mono _ _ _
   | exact armadaref01_May.mono _ _ _
   | exact armadaref01_Put.mono _ _ _ _ _
   | exact LeO.none _
   | refine LeO.ite ?_ ?_
   | refine LeO.bind ?_ (fun _ => ?_)
def armadaref01_Run.T11 : Bool × List (List Nat × List Nat) := (true, [([], []), ([], []), ([], []), ([1, 2], [1, 2]), ([3], [3]), ([4], [4]), ([], []), ([], []), ([6, 7], [6, 7]), ([8], [8]), ([9], [9]), ([0, 5, 10], [0, 5, 10]), ([11], [11]), ([12], [12]), ([12], [12]), ([], []), ([15, 13, 11, 0, 1, 2, 3, 4, 5, 6, 7, 8, 9, 10, 11, 12, 13, 15], [13, 15]), ([14, 16, 0, 1, 2, 3, 4, 5, 6, 7, 8, 9, 10, 11, 12, 13, 14, 15, 16], [14])])
def armadaref01_Run.B11 : List Nat := [0, 0, 0, 6, 14, 30, 0, 0, 192, 448, 960, 2047, 4095, 8191, 8191, 0, 49151, 131071]
theorem armadaref01_Run.tab11 : rtab .any (opsOf Try.f27 11) = armadaref01_Run.T11 := by kernel_rfl
theorem armadaref01_Run.bits11 : waitsOk armadaref01_Run.T11.2 armadaref01_Run.B11 = true := by kernel_rfl
set_option maxHeartbeats 8000000 in
set_option maxRecDepth 100000 in
theorem armadaref01_Run.calls (k : Nat) (P0_0_ : Nat → Prop) (A0_0 : Option Addr) (c0_0 : Nat) (l0_0 : List ByteArray) (P0_1_ : Nat → Prop) (A0_1 : Option Addr) (c0_1 : Nat) (l0_1 : List (S27)) (A1 : Option Addr) (c1 : Nat) (l1 : List (S49)) (a2 : Int) (r1 : List ByteArray) (r2 : List (S27)) (r3 : Int) (w : World) (hs0_0 : Kd.V Kd.string 9 w w.heap.size (fun k_ => P0_0_ k_) (.slice A0_0 l0_0.length c0_0) l0_0) (hs0_1 : Kd.V k27 27 w w.heap.size (fun k_ => P0_1_ k_) (.slice A0_1 l0_1.length c0_1) l0_1) (hr1 : Kd.C k49 w A1 l1.length l1) (hc1 : l1.length ≤ c1) (h : armadaref01_Run.f k l0_0 l0_1 l1 a2 = some (r1, r2, r3)) :
  Calls Try.prog 27 #[.agg #[.slice A0_0 l0_0.length c0_0, .slice A0_1 l0_1.length c0_1], .slice A1 l1.length c1, .int .i64 a2] w fun e w' => ∃ v0_ v1_ : Value, e = .returned (.tuple #[.agg #[v0_, v1_], .int .i64 r3]) ∧ Kd.V Kd.string 9 w' w.heap.size (fun k_ => ((P0_0_ k_ ∨ P0_1_ k_) ∨ w.heap.size ≤ k_)) v0_ r1 ∧ Kd.V k27 27 w' w.heap.size (fun k_ => ((P0_0_ k_ ∨ P0_1_ k_) ∨ w.heap.size ≤ k_)) v1_ r2 ∧ Below w.heap.size w w' := by
 have hu25 := Try.underlying25
 have HO0_0 := Aside0.mk (show Kd.V Kd.string 9 w w.heap.size (fun k_ => ((P0_0_ k_ ∨ P0_1_ k_) ∨ w.heap.size ≤ k_)) (.slice A0_0 l0_0.length c0_0) l0_0 from Kd.V_mono hs0_0 (fun k_ hk => .inl (.inl hk)))
 have HO0_1 := Aside0.mk (show Kd.V k27 27 w w.heap.size (fun k_ => ((P0_0_ k_ ∨ P0_1_ k_) ∨ w.heap.size ≤ k_)) (.slice A0_1 l0_1.length c0_1) l0_1 from Kd.V_mono hs0_1 (fun k_ hk => .inl (.inr hk)))
 have HR1 := Aside0.mk hr1
 have HC1 := Aside0.mk hc1
 clear hr1 hc1
 have HB := Aside0.mk (Below.refl w.heap.size w)
 have H : ((armadaref01_May.f k l0_0 l0_1).bind fun t461 => (if t461 = true then (armadaref01_Run.l0 k l1 a2 0 l0_0 l0_1 l0_0 l0_1) else (some (l0_0, l0_1, 1)))) = some (r1, r2, r3) := h
 clear h
 replace H := Option.bind_eq_some_iff.mp H
 obtain ⟨t461, A40, H⟩ := H
 replace H : (if t461 = true then (armadaref01_Run.l0 k l1 a2 0 l0_0 l0_1 l0_0 l0_1) else (some (l0_0, l0_1, 1))) = some (r1, r2, r3) := H
 have A4 := Aside0.mk A40
 clear A40
 by_cases c5 : t461 = true
 ·subst c5
  have H1 : (armadaref01_Run.l0 k l1 a2 0 l0_0 l0_1 l0_0 l0_1) = some (r1, r2, r3) := by rw [if_pos rfl] at H; exact H
  clear H
  have H := H1
  clear H1
  have H' := Aside0.mk H
  clear H
  go_enter Try.func27, Try.ntmps27
  go_wp2_with (first | ((with_reducible refine gate_dst (N := 3) rfl ?_); refine box_event ?hg (N := 3) ?hd (cs := #[.slice A0_0 l0_0.length c0_0, .slice A0_1 l0_1.length c0_1]) (t := 25) ?hr ?_; (case hd => rfl); (case hg => rfl); (case hr => first | (go_simp; done) | (go_simp; rfl)); intro gb458 hg w6 hbox hb; have hz_ := zq HB (by repeat (first | (with_reducible first | exact Below.refl _ _ | apply yA_ | apply yN_ | apply yD_) | exact Below.refl _ _)) hb; replace hb := below_step hz_ hb; replace HO0_0 := zE HO0_0 hz_ hg hb; replace HO0_1 := zE HO0_1 hz_ hg hb; have BK458 := Aside0.mk hbox; have GW458 := zG HB hz_ hg; have GE458 := zG HB hz_ hg; replace HB := zH HB hb; clear hz_; clear hb hbox hg) | ((with_reducible refine gate_dst (N := 6) rfl ?_); refine box_event ?hg (N := 6) ?hd (cs := #[.slice none 0 0, .slice none 0 0]) (t := 25) ?hr ?_; (case hd => rfl); (case hg => rfl); (case hr => first | (go_simp; done) | (go_simp; rfl)); intro gb459 hg w7 hbox hb; have hz_ := zq HB (by repeat (first | (with_reducible first | exact Below.refl _ _ | apply yA_ | apply yN_ | apply yD_) | exact Below.refl _ _)) hb; replace hb := below_step hz_ hb; replace HO0_0 := zE HO0_0 hz_ hg hb; replace HO0_1 := zE HO0_1 hz_ hg hb; have BK459 := Aside0.mk hbox; have GW459 := zG HB hz_ hg; have GE459 := zG HB hz_ hg; have NB458_459 := zN BK458 hz_ hg; have NB459_458 := zM BK458 hz_ hg; replace BK458 := zB BK458 hb; replace HB := zH HB hb; clear hz_; clear hb hbox hg; have hnb8 := NB458_459.out; have hnc8 := NB459_458.out; have hcz9_0 : w7.cell? ⟨gb458, 0, none⟩ = some (.slice A0_0 l0_0.length c0_0) := (xC_ BK458.out 0).trans rfl; have hcz9_1 : w7.cell? ⟨gb458, 1, none⟩ = some (.slice A0_1 l0_1.length c0_1) := (xC_ BK458.out 1).trans rfl; have hfz9_0 := xF_ BK458.out 0; have hfz9_1 := xF_ BK458.out 1) | ((with_reducible refine gate_dst (N := 8) rfl ?_); refine box_event ?hg (N := 8) ?hd (cs := #[.slice none 0 0, .slice none 0 0]) (t := 25) ?hr ?_; (case hd => rfl); (case hg => rfl); (case hr => first | (go_simp; done) | (go_simp; rfl)); intro gb460 hg w10 hbox hb; have hz_ := zq HB (by repeat (first | (with_reducible first | exact Below.refl _ _ | apply yA_ | apply yN_ | apply yD_) | exact Below.refl _ _)) hb; replace hb := below_step hz_ hb; replace HO0_0 := zE HO0_0 hz_ hg hb; replace HO0_1 := zE HO0_1 hz_ hg hb; have BK460 := Aside0.mk hbox; have GW460 := zG HB hz_ hg; have GE460 := zG HB hz_ hg; have NB458_460 := zN BK458 hz_ hg; have NB460_458 := zM BK458 hz_ hg; have NB459_460 := zN BK459 hz_ hg; have NB460_459 := zM BK459 hz_ hg; replace BK458 := zB BK458 hb; replace BK459 := zB BK459 hb; replace HB := zH HB hb; clear hz_; clear hb hbox hg; have hnb11 := NB460_458.out; have hnc11 := NB458_460.out; have hnb12 := NB460_459.out; have hnc12 := NB459_460.out; have hcz13_0 : w10.cell? ⟨gb460, 0, none⟩ = some (.slice none 0 0) := (xC_ BK460.out 0).trans rfl; have hcz13_1 : w10.cell? ⟨gb460, 1, none⟩ = some (.slice none 0 0) := (xC_ BK460.out 1).trans rfl; have hfz13_0 := xF_ BK460.out 0; have hfz13_1 := xF_ BK460.out 1; have hcz14_0 : w10.cell? ⟨gb458, 0, none⟩ = some (.slice A0_0 l0_0.length c0_0) := (xC_ BK458.out 0).trans rfl; have hcz14_1 : w10.cell? ⟨gb458, 1, none⟩ = some (.slice A0_1 l0_1.length c0_1) := (xC_ BK458.out 1).trans rfl; have hfz14_0 := xF_ BK458.out 0; have hfz14_1 := xF_ BK458.out 1) | ((with_reducible refine gate_callee (f := 17) rfl ?_); refine goesL_ (some 17) rfl rfl Try.func17 (by kernel_rfl) rfl #[.agg #[.slice A0_0 l0_0.length c0_0, .slice A0_1 l0_1.length c0_1]] rfl (by (try simp only [List.map_toArray, List.map_cons, List.map_nil]); first | done | rfl) ?_; (with_reducible refine (armadaref01_May.calls k _ _ l0_0 _ _ l0_1 true _ ?side1 ?side2 ?side3 ?side4 A4.out).mono ?_); (case side1 => refine (Kd.V_reads' (e := 9) (base := w.heap.size) (ok := fun k_ => (((((P0_0_ k_ ∨ P0_1_ k_) ∨ w.heap.size ≤ k_) ∧ k_ ≠ gb458) ∧ k_ ≠ gb459) ∧ k_ ≠ gb460)) (n := l0_0.length) (c := c0_0) ?_).2.2; exact (by (with_reducible repeat (first | apply Kd.V_alloc | apply Kd.V_drewN | apply Kd.V_drew)); exact (Kd.V_mono (Kd.V_far (p := ⟨gb460, 1, none⟩) (Kd.V_far (p := ⟨gb460, 0, none⟩) (Kd.V_mono HO0_0.out (fun k_ hk => (⟨hk, hk.2⟩ : _ ∧ k_ ≠ gb460))) (fun _ hk => hk.2) (.slice A0_0 l0_0.length c0_0)) (fun _ hk => hk.2) (.slice A0_1 l0_1.length c0_1)) (fun _ h_ => h_.1)))); (case side2 => exact (Kd.V_reads' HO0_0.out).2.1); (case side3 => refine (Kd.V_reads' (e := 27) (base := w.heap.size) (ok := fun k_ => (((((P0_0_ k_ ∨ P0_1_ k_) ∨ w.heap.size ≤ k_) ∧ k_ ≠ gb458) ∧ k_ ≠ gb459) ∧ k_ ≠ gb460)) (n := l0_1.length) (c := c0_1) ?_).2.2; exact (by (with_reducible repeat (first | apply Kd.V_alloc | apply Kd.V_drewN | apply Kd.V_drew)); exact (Kd.V_mono (Kd.V_far (p := ⟨gb460, 1, none⟩) (Kd.V_far (p := ⟨gb460, 0, none⟩) (Kd.V_mono HO0_1.out (fun k_ hk => (⟨hk, hk.2⟩ : _ ∧ k_ ≠ gb460))) (fun _ hk => hk.2) (.slice A0_0 l0_0.length c0_0)) (fun _ hk => hk.2) (.slice A0_1 l0_1.length c0_1)) (fun _ h_ => h_.1)))); (case side4 => exact (Kd.V_reads' HO0_1.out).2.1); rintro e w15 ⟨rfl, hb⟩; refine ⟨_, rfl, ?_⟩; have hz_ := zq2 HB gb460 (.slice A0_0 l0_0.length c0_0) (.slice A0_1 l0_1.length c0_1) (by repeat (first | (with_reducible first | exact Below.refl _ _ | apply yA_ | apply yN_ | apply yD_) | exact Below.refl _ _)) hb; replace hb := below_step hz_ hb; replace HO0_0 := zF HO0_0 (fun _ hk => hk.2) hb; replace HO0_1 := zF HO0_1 (fun _ hk => hk.2) hb; replace BK458 := zBF BK458 NB458_460 hb; replace BK459 := zBF BK459 NB459_460 hb; replace BK460 := zBP BK460 hb; replace HB := zHF HB GE460 hb; clear hz_; (try clear hb)))
  go_loopg [9] k (fun kq v9 w' => ∃ (x9_1 : Int) (x461000_1 : List ByteArray) (x461001_1 : List (S27)) (u461000 : Value) (u461001 : Value), v9 = .int .i64 x9_1 ∧ Aside0 (armadaref01_Run.l0 kq l1 a2 x9_1 l0_0 l0_1 x461000_1 x461001_1 = some (r1, r2, r3)) ∧ Aside0 (kq ≤ k) ∧ Aside0 (Kd.V Kd.string 9 w' w.heap.size (fun k_ => ((P0_0_ k_ ∨ P0_1_ k_) ∨ w.heap.size ≤ k_) ∧ k_ ≠ gb458 ∧ k_ ≠ gb459 ∧ k_ ≠ gb460) (.slice A0_0 l0_0.length c0_0) l0_0) ∧ Aside0 (Kd.V k27 27 w' w.heap.size (fun k_ => ((P0_0_ k_ ∨ P0_1_ k_) ∨ w.heap.size ≤ k_) ∧ k_ ≠ gb458 ∧ k_ ≠ gb459 ∧ k_ ≠ gb460) (.slice A0_1 l0_1.length c0_1) l0_1) ∧ Aside0 (Kd.V Kd.string 9 w' w.heap.size (fun k_ => ((P0_0_ k_ ∨ P0_1_ k_) ∨ w.heap.size ≤ k_) ∧ k_ ≠ gb458 ∧ k_ ≠ gb459 ∧ k_ ≠ gb460) u461000 x461000_1) ∧ Aside0 (Kd.V k27 27 w' w.heap.size (fun k_ => ((P0_0_ k_ ∨ P0_1_ k_) ∨ w.heap.size ≤ k_) ∧ k_ ≠ gb458 ∧ k_ ≠ gb459 ∧ k_ ≠ gb460) u461001 x461001_1) ∧ Aside0 (w'.heap[gb458]? = some (.cells #[(.slice A0_0 l0_0.length c0_0), (.slice A0_1 l0_1.length c0_1)] 25 (0, 0))) ∧ Aside0 (w'.heap[gb459]? = some (.cells #[(.slice none 0 0), (.slice none 0 0)] 25 (0, 0))) ∧ Aside0 (w'.heap[gb460]? = some (.cells #[u461000, u461001] 25 (0, 0))) ∧ Aside0 (Below w.heap.size w w'))
  case atStart => exact ⟨(0), (l0_0), (l0_1), (.slice A0_0 l0_0.length c0_0), (.slice A0_1 l0_1.length c0_1), (by first | rfl | (simp; done) | (simp [*]; done)), H', ⟨Nat.le_refl _⟩, ⟨by (with_reducible repeat (first | apply Kd.V_alloc | apply Kd.V_drewN | apply Kd.V_drew)); exact Kd.V_mono HO0_0.out (fun _ hk => ⟨hk.1.1.1, ⟨hk.1.1.2, ⟨hk.1.2, hk.2⟩⟩⟩)⟩, ⟨by (with_reducible repeat (first | apply Kd.V_alloc | apply Kd.V_drewN | apply Kd.V_drew)); exact Kd.V_mono HO0_1.out (fun _ hk => ⟨hk.1.1.1, ⟨hk.1.1.2, ⟨hk.1.2, hk.2⟩⟩⟩)⟩, ⟨by (with_reducible repeat (first | apply Kd.V_alloc | apply Kd.V_drewN | apply Kd.V_drew)); exact Kd.V_mono HO0_0.out (fun _ hk => ⟨hk.1.1.1, ⟨hk.1.1.2, ⟨hk.1.2, hk.2⟩⟩⟩)⟩, ⟨by (with_reducible repeat (first | apply Kd.V_alloc | apply Kd.V_drewN | apply Kd.V_drew)); exact Kd.V_mono HO0_1.out (fun _ hk => ⟨hk.1.1.1, ⟨hk.1.1.2, ⟨hk.1.2, hk.2⟩⟩⟩)⟩, ⟨by (with_reducible repeat (first | apply xN_ | apply xD_ | apply xA_)); exact BK458.out⟩, ⟨by (with_reducible repeat (first | apply xN_ | apply xD_ | apply xA_)); exact BK459.out⟩, ⟨by (with_reducible repeat (first | apply xN_ | apply xD_ | apply xA_)); exact BK460.out⟩, ⟨by repeat (first | (with_reducible first | exact HB.out | apply yA_ | apply yN_ | apply yD_ | refine yS_ ?_ GE458.out | refine yS_ ?_ GE459.out | refine yS_ ?_ GE460.out) | exact HB.out)⟩⟩
  case round =>
   clear H'
   (try clear c1); (try clear c2); (try clear p2); (try clear c5); (try clear c8); (try clear c11); (try clear c12); (try clear hcz13_0); (try clear hcz13_1); (try clear hcz14_0)
   (try clear hcz14_1); (try clear hcz9_0); (try clear hcz9_1); (try clear hfz13_0); (try clear hfz13_1); (try clear hfz14_0); (try clear hfz14_1); (try clear hfz9_0)
   (try clear hfz9_1)
   obtain ⟨x9_1, x461000_1, x461001_1, u461000, u461001, rfl, HA, HK1, HO_459000, HO_459001, HO_461000, HO_461001, BK458, BK459, BK460, HB⟩ := hrel
   cases gk with
   | zero => exact absurd HA.out (by simp [armadaref01_Run.l0])
   | succ k1 =>
    have H := HA.out
    clear HA
    simp only [armadaref01_Run.l0] at H
    have HC16 := Aside0.mk H
    clear H
    go_upto_region 5 with (fail)
    go_cut [28] (fun v28 wc => ∃ (kq : Nat) (x28_15 : Bool), v28 = .bool x28_15 ∧ Aside0 (armadaref01_Run.j1 kq l1 a2 x9_1 x28_15 l0_0 l0_1 x461000_1 x461001_1 = some (r1, r2, r3)) ∧ Aside0 (kq ≤ k1) ∧ Aside0 (Kd.V Kd.string 9 wc w.heap.size (fun k_ => ((P0_0_ k_ ∨ P0_1_ k_) ∨ w.heap.size ≤ k_) ∧ k_ ≠ gb458 ∧ k_ ≠ gb459 ∧ k_ ≠ gb460) (.slice A0_0 l0_0.length c0_0) l0_0) ∧ Aside0 (Kd.V k27 27 wc w.heap.size (fun k_ => ((P0_0_ k_ ∨ P0_1_ k_) ∨ w.heap.size ≤ k_) ∧ k_ ≠ gb458 ∧ k_ ≠ gb459 ∧ k_ ≠ gb460) (.slice A0_1 l0_1.length c0_1) l0_1) ∧ Aside0 (Kd.V Kd.string 9 wc w.heap.size (fun k_ => ((P0_0_ k_ ∨ P0_1_ k_) ∨ w.heap.size ≤ k_) ∧ k_ ≠ gb458 ∧ k_ ≠ gb459 ∧ k_ ≠ gb460) u461000 x461000_1) ∧ Aside0 (Kd.V k27 27 wc w.heap.size (fun k_ => ((P0_0_ k_ ∨ P0_1_ k_) ∨ w.heap.size ≤ k_) ∧ k_ ≠ gb458 ∧ k_ ≠ gb459 ∧ k_ ≠ gb460) u461001 x461001_1) ∧ Aside0 (wc.heap[gb458]? = some (.cells #[(.slice A0_0 l0_0.length c0_0), (.slice A0_1 l0_1.length c0_1)] 25 (0, 0))) ∧ Aside0 (wc.heap[gb459]? = some (.cells #[(.slice none 0 0), (.slice none 0 0)] 25 (0, 0))) ∧ Aside0 (wc.heap[gb460]? = some (.cells #[u461000, u461001] 25 (0, 0))) ∧ Aside0 (Below w.heap.size w wc))
    case first =>
     have H := HC16.out
     clear HC16
     by_cases c17 : x9_1 < (l1.length : Int)
     ·rw [if_pos c17] at H
      have c17b0 : decide (x9_1 < (l1.length : Int)) = true := decide_eq_true c17
      clear c17
      (first | rw [c17b0] | (simp only [i64_w, i32_w]; rw [c17b0]) | skip)
      have H' := Aside0.mk H
      clear H
      go_wp2
      go_meet
      case rel => exact ⟨_, (decide (x9_1 < a2)), (by first | rfl | (simp; done) | (simp [*]; done)), H', ⟨by have := HK1.out; first | omega | exact Nat.le_refl _⟩, ⟨by (with_reducible repeat (first | apply Kd.V_alloc | apply Kd.V_drewN | apply Kd.V_drew)); exact HO_459000.out⟩, ⟨by (with_reducible repeat (first | apply Kd.V_alloc | apply Kd.V_drewN | apply Kd.V_drew)); exact HO_459001.out⟩, ⟨by (with_reducible repeat (first | apply Kd.V_alloc | apply Kd.V_drewN | apply Kd.V_drew)); exact HO_461000.out⟩, ⟨by (with_reducible repeat (first | apply Kd.V_alloc | apply Kd.V_drewN | apply Kd.V_drew)); exact HO_461001.out⟩, ⟨by (with_reducible repeat (first | apply xN_ | apply xD_ | apply xA_)); exact BK458.out⟩, ⟨by (with_reducible repeat (first | apply xN_ | apply xD_ | apply xA_)); exact BK459.out⟩, ⟨by (with_reducible repeat (first | apply xN_ | apply xD_ | apply xA_)); exact BK460.out⟩, ⟨by repeat (first | (with_reducible first | exact HB.out | apply yA_ | apply yN_ | apply yD_ | refine yS_ ?_ GE458.out | refine yS_ ?_ GE459.out | refine yS_ ?_ GE460.out) | exact HB.out)⟩⟩
     ·rw [if_neg c17] at H
      have c17b0 : decide (x9_1 < (l1.length : Int)) = false := decide_eq_false c17
      clear c17
      (first | rw [c17b0] | (simp only [i64_w, i32_w]; rw [c17b0]) | skip)
      have H' := Aside0.mk H
      clear H
      go_wp2
      go_meet
      case rel => exact ⟨_, (false), (by first | rfl | (simp; done) | (simp [*]; done)), H', ⟨by have := HK1.out; first | omega | exact Nat.le_refl _⟩, ⟨by (with_reducible repeat (first | apply Kd.V_alloc | apply Kd.V_drewN | apply Kd.V_drew)); exact HO_459000.out⟩, ⟨by (with_reducible repeat (first | apply Kd.V_alloc | apply Kd.V_drewN | apply Kd.V_drew)); exact HO_459001.out⟩, ⟨by (with_reducible repeat (first | apply Kd.V_alloc | apply Kd.V_drewN | apply Kd.V_drew)); exact HO_461000.out⟩, ⟨by (with_reducible repeat (first | apply Kd.V_alloc | apply Kd.V_drewN | apply Kd.V_drew)); exact HO_461001.out⟩, ⟨by (with_reducible repeat (first | apply xN_ | apply xD_ | apply xA_)); exact BK458.out⟩, ⟨by (with_reducible repeat (first | apply xN_ | apply xD_ | apply xA_)); exact BK459.out⟩, ⟨by (with_reducible repeat (first | apply xN_ | apply xD_ | apply xA_)); exact BK460.out⟩, ⟨by repeat (first | (with_reducible first | exact HB.out | apply yA_ | apply yN_ | apply yD_ | refine yS_ ?_ GE458.out | refine yS_ ?_ GE459.out | refine yS_ ?_ GE460.out) | exact HB.out)⟩⟩
    case rest =>
     clear HC16
     (try clear c1); (try clear c2); (try clear p2); (try clear c5); (try clear c8); (try clear c11); (try clear c12); (try clear c17); (try clear c17b0); (try clear hcz13_0)
     (try clear hcz13_1); (try clear hcz14_0); (try clear hcz14_1); (try clear hcz9_0); (try clear hcz9_1); (try clear hfz13_0); (try clear hfz13_1); (try clear hfz14_0)
     (try clear hfz14_1); (try clear hfz9_0); (try clear hfz9_1); (try clear p2)
     obtain ⟨kq, x28_15, rfl, HA, HJ15, HO_459000, HO_459001, HO_461000, HO_461001, BK458, BK459, BK460, HB⟩ := hcut
     cases kq with
     | zero => exact absurd HA.out (by simp [armadaref01_Run.j1])
     | succ kj15 =>
      have H := HA.out
      clear HA
      simp only [armadaref01_Run.j1] at H
      by_cases c18 : x28_15 = true
      ·subst c18
       have H1 : (if 0 ≤ x9_1 then (if x9_1 < (l1.length : Int) then (if (rd_T49 l1 x9_1).f0 = true then ((armadaref01_Flush.f kj15 x461000_1 x461001_1).bind fun bt463 => (if 0 = 0 then (armadaref01_Run.l0 kj15 l1 a2 (wrap64 (x9_1 + 1)) l0_0 l0_1 bt463.1 bt463.2.1) else (some (l0_0, l0_1, 0)))) else ((armadaref01_Put.f kj15 x461000_1 x461001_1 ((rd_T49 l1 x9_1).f1) ((rd_T49 l1 x9_1).f2)).bind fun bt473 => (if bt473.2.2 = 0 then (armadaref01_Run.l0 kj15 l1 a2 (wrap64 (x9_1 + 1)) l0_0 l0_1 bt473.1 bt473.2.1) else (some (l0_0, l0_1, bt473.2.2))))) else (none)) else (none)) = some (r1, r2, r3) := by rw [if_pos rfl] at H; exact H
       clear H
       have H := H1
       clear H1
       by_cases c19 : 0 ≤ x9_1
       ·rw [if_pos c19] at H
        have c19b0 : decide (0 ≤ x9_1) = true := decide_eq_true c19
        clear c19
        by_cases c20 : x9_1 < (l1.length : Int)
        ·rw [if_pos c20] at H
         have c20b0 : decide (x9_1 < (l1.length : Int)) = true := decide_eq_true c20
         clear c20
         obtain ⟨bq21, hbq21⟩ : ∃ b_ : Bool, b_ = ((rd_T49 l1 x9_1).f0) := ⟨_, rfl⟩
         replace H : (if bq21 = true then ((armadaref01_Flush.f kj15 x461000_1 x461001_1).bind fun bt463 => (if 0 = 0 then (armadaref01_Run.l0 kj15 l1 a2 (wrap64 (x9_1 + 1)) l0_0 l0_1 bt463.1 bt463.2.1) else (some (l0_0, l0_1, 0)))) else ((armadaref01_Put.f kj15 x461000_1 x461001_1 ((rd_T49 l1 x9_1).f1) ((rd_T49 l1 x9_1).f2)).bind fun bt473 => (if bt473.2.2 = 0 then (armadaref01_Run.l0 kj15 l1 a2 (wrap64 (x9_1 + 1)) l0_0 l0_1 bt473.1 bt473.2.1) else (some (l0_0, l0_1, bt473.2.2))))) = some (r1, r2, r3) := by rw [← hbq21] at H; exact H
         have Nbq21 := Aside0.mk hbq21
         clear hbq21
         by_cases c22 : bq21 = true
         ·subst c22
          have H1 : ((armadaref01_Flush.f kj15 x461000_1 x461001_1).bind fun bt463 => (if 0 = 0 then (armadaref01_Run.l0 kj15 l1 a2 (wrap64 (x9_1 + 1)) l0_0 l0_1 bt463.1 bt463.2.1) else (some (l0_0, l0_1, 0)))) = some (r1, r2, r3) := by rw [if_pos rfl] at H; exact H
          clear H
          have H := H1
          clear H1
          replace H := Option.bind_eq_some_iff.mp H
          obtain ⟨⟨t463, t466, t469⟩, A230, H⟩ := H
          replace H : (if 0 = 0 then (armadaref01_Run.l0 kj15 l1 a2 (wrap64 (x9_1 + 1)) l0_0 l0_1 t463 t466) else (some (l0_0, l0_1, 0))) = some (r1, r2, r3) := H
          have A23 := Aside0.mk A230
          clear A230
          by_cases c24 : 0 = 0
          ·rw [if_pos c24] at H
           have c24b0 : (0 == 0) = true := beq_iff_eq.mpr c24
           have c24b1 : (0 != 0) = false := bne_eq_false_iff_eq.mpr c24
           clear c24
           have H' := Aside0.mk H
           clear H
           have p462 : 0 ≤ (x9_1 : Int) := of_decide_eq_true (by first | (with_reducible assumption) | assumption)
           have q462 : x9_1 < (l1.length : Int) := of_decide_eq_true (by first | (with_reducible assumption) | assumption)
           obtain ⟨ad462, e462, hx462_0, hx462_1, hx462_2⟩ := at_T49 HR1.out x9_1 p462 q462
           (try rw [← Nbq21.out] at hx462_0)
           cases e462
           replace hx462_0 := (HB.out.cell (World.block_lt_of_cell? w _ hx462_0)).trans hx462_0
           replace hx462_1 := (HB.out.cell (World.block_lt_of_cell? w _ hx462_1)).trans hx462_1
           replace hx462_2 := (HB.out.cell (World.block_lt_of_cell? w _ hx462_2)).trans hx462_2
           replace p462 := eq_true p462
           replace q462 := eq_true q462
           have hnb25 := NB460_458.out
           have hnc25 := NB458_460.out
           have hnb26 := NB460_459.out
           have hnc26 := NB459_460.out
           have hcz27_0 : wc.cell? ⟨gb460, 0, none⟩ = some (u461000) := (xC_ BK460.out 0).trans rfl
           have hcz27_1 : wc.cell? ⟨gb460, 1, none⟩ = some (u461001) := (xC_ BK460.out 1).trans rfl
           have hfz27_0 := xF_ BK460.out 0
           have hfz27_1 := xF_ BK460.out 1
           obtain ⟨Ao28, co28, eo28⟩ := Kd.V_slice HO_461000.out
           subst eo28
           obtain ⟨Ao29, co29, eo29⟩ := Kd.V_slice HO_461001.out
           subst eo29
           go_wp2_with (first | ((with_reducible refine gate_callee (f := 19) rfl ?_); refine goesL_ (some 38) rfl rfl Try.func19 (by kernel_rfl) rfl #[.agg #[.slice Ao28 x461000_1.length co28, .slice Ao29 x461001_1.length co29]] rfl (by (try simp only [List.map_toArray, List.map_cons, List.map_nil]); first | done | rfl) ?_; (with_reducible refine (armadaref01_Flush.calls kj15 (fun k_ => (((P0_0_ k_ ∨ P0_1_ k_) ∨ w.heap.size ≤ k_) ∧ (k_ ≠ gb458 ∧ (k_ ≠ gb459 ∧ k_ ≠ gb460)))) _ _ x461000_1 (fun k_ => (((P0_0_ k_ ∨ P0_1_ k_) ∨ w.heap.size ≤ k_) ∧ (k_ ≠ gb458 ∧ (k_ ≠ gb459 ∧ k_ ≠ gb460)))) _ _ x461001_1 t463 t466 t469 _ ?side1 ?side2 A23.out).mono ?_); (case side1 => exact HO_461000.out); (case side2 => exact HO_461001.out); rintro e w30 ⟨v464, v467, rfl, ho0, ho1, hb⟩; refine ⟨_, rfl, ?_⟩; have hz_ := zq HB (by repeat (first | (with_reducible first | exact Below.refl _ _ | apply yA_ | apply yN_ | apply yD_) | exact Below.refl _ _)) hb; replace hb := below_step hz_ hb; replace HO_459000 := zV HO_459000 hb; replace HO_459001 := zV HO_459001 hb; replace HO_461000 := zV HO_461000 hb; replace HO_461001 := zV HO_461001 hb; have HO465 := Aside0.mk (Kd.V_lower (Kd.V_mono (ok' := fun k_ => ((P0_0_ k_ ∨ P0_1_ k_) ∨ w.heap.size ≤ k_) ∧ k_ ≠ gb458 ∧ k_ ≠ gb459 ∧ k_ ≠ gb460) ho0 (fun k_ hk_ => ⟨Or.elim hk_ (fun hs_ => Or.elim hs_ (fun hs_ => hs_.1) (fun hs_ => hs_.1)) (fun hn_ => (.inr (Nat.le_trans (zs HB hz_) hn_))), Or.elim hk_ (fun hs_ => Or.elim hs_ (fun hs_ => hs_.2.1) (fun hs_ => hs_.2.1)) (zf BK458 hz_ k_), Or.elim hk_ (fun hs_ => Or.elim hs_ (fun hs_ => hs_.2.2.1) (fun hs_ => hs_.2.2.1)) (zf BK459 hz_ k_), Or.elim hk_ (fun hs_ => Or.elim hs_ (fun hs_ => hs_.2.2.2) (fun hs_ => hs_.2.2.2)) (zf BK460 hz_ k_)⟩)) (zs HB hz_)); have HO468 := Aside0.mk (Kd.V_lower (Kd.V_mono (ok' := fun k_ => ((P0_0_ k_ ∨ P0_1_ k_) ∨ w.heap.size ≤ k_) ∧ k_ ≠ gb458 ∧ k_ ≠ gb459 ∧ k_ ≠ gb460) ho1 (fun k_ hk_ => ⟨Or.elim hk_ (fun hs_ => Or.elim hs_ (fun hs_ => hs_.1) (fun hs_ => hs_.1)) (fun hn_ => (.inr (Nat.le_trans (zs HB hz_) hn_))), Or.elim hk_ (fun hs_ => Or.elim hs_ (fun hs_ => hs_.2.1) (fun hs_ => hs_.2.1)) (zf BK458 hz_ k_), Or.elim hk_ (fun hs_ => Or.elim hs_ (fun hs_ => hs_.2.2.1) (fun hs_ => hs_.2.2.1)) (zf BK459 hz_ k_), Or.elim hk_ (fun hs_ => Or.elim hs_ (fun hs_ => hs_.2.2.2) (fun hs_ => hs_.2.2.2)) (zf BK460 hz_ k_)⟩)) (zs HB hz_)); replace BK458 := zB BK458 hb; replace BK459 := zB BK459 hb; replace BK460 := zB BK460 hb; replace HB := zH HB hb; clear hz_; (try clear hb); (try clear ho0); (try clear ho1)) | ((with_reducible refine gate_dst (N := 11) rfl ?_); refine box_event ?hg (N := 11) ?hd (cs := #[.slice none 0 0, .slice none 0 0]) (t := 25) ?hr ?_; (case hd => rfl); (case hg => rfl); (case hr => first | (go_simp; done) | (go_simp; rfl)); intro gb470 hg w31 hbox hb; have hz_ := zq HB (by repeat (first | (with_reducible first | exact Below.refl _ _ | apply yA_ | apply yN_ | apply yD_) | exact Below.refl _ _)) hb; replace hb := below_step hz_ hb; replace HO_459000 := zE HO_459000 hz_ hg hb; replace HO_459001 := zE HO_459001 hz_ hg hb; replace HO_461000 := zE HO_461000 hz_ hg hb; replace HO_461001 := zE HO_461001 hz_ hg hb; replace HO465 := zE HO465 hz_ hg hb; replace HO468 := zE HO468 hz_ hg hb; have BK470 := Aside0.mk hbox; have GW470 := zG HB hz_ hg; have GE470 := zG HB hz_ hg; have NB458_470 := zN BK458 hz_ hg; have NB470_458 := zM BK458 hz_ hg; have NB459_470 := zN BK459 hz_ hg; have NB470_459 := zM BK459 hz_ hg; have NB460_470 := zN BK460 hz_ hg; have NB470_460 := zM BK460 hz_ hg; replace BK458 := zB BK458 hb; replace BK459 := zB BK459 hb; replace BK460 := zB BK460 hb; replace HB := zH HB hb; clear hz_; clear hb hbox hg; obtain ⟨Ao32, co32, eo32⟩ := Kd.V_slice HO465.out; subst eo32; have hnb33 := NB470_458.out; have hnc33 := NB458_470.out; have hnb34 := NB470_459.out; have hnc34 := NB459_470.out; have hnb35 := NB470_460.out; have hnc35 := NB460_470.out; have hcz36_0 : w31.cell? ⟨gb470, 0, none⟩ = some (.slice none 0 0) := (xC_ BK470.out 0).trans rfl; have hcz36_1 : w31.cell? ⟨gb470, 1, none⟩ = some (.slice none 0 0) := (xC_ BK470.out 1).trans rfl; have hfz36_0 := xF_ BK470.out 0; have hfz36_1 := xF_ BK470.out 1; obtain ⟨Ao37, co37, eo37⟩ := Kd.V_slice HO468.out; subst eo37; have hcz38_0 : w31.cell? ⟨gb460, 0, none⟩ = some (.slice Ao28 x461000_1.length co28) := (xC_ BK460.out 0).trans rfl; have hcz38_1 : w31.cell? ⟨gb460, 1, none⟩ = some (.slice Ao29 x461001_1.length co29) := (xC_ BK460.out 1).trans rfl; have hfz38_0 := xF_ BK460.out 0; have hfz38_1 := xF_ BK460.out 1))
           go_roundg kj15
           case measure => have := HK1.out; have := HJ15.out; omega
           case rel => exact ⟨(wrap64 (x9_1 + 1)), (t463), (t466), (.slice Ao32 t463.length co32), (.slice Ao37 t466.length co37), (by first | rfl | (simp; done) | (simp [*]; done)), H', ⟨by have := HK1.out; have := HJ15.out; omega⟩, ⟨by (with_reducible repeat (first | apply Kd.V_alloc | apply Kd.V_drewN | apply Kd.V_drew)); exact Kd.V_mono (Kd.V_far (p := ⟨gb460, 1, none⟩) (Kd.V_far (p := ⟨gb460, 0, none⟩) (Kd.V_far (p := ⟨gb470, 1, none⟩) (Kd.V_far (p := ⟨gb470, 0, none⟩) (Kd.V_mono (Kd.V_mono HO_459000.out (fun k_ hk => (⟨hk, hk.2⟩ : _ ∧ k_ ≠ gb470))) (fun k_ hk => (⟨hk, hk.1.1.2.2.2⟩ : _ ∧ k_ ≠ gb460))) (fun _ hk => hk.1.2) (.slice Ao32 t463.length co32)) (fun _ hk => hk.1.2) (.slice Ao37 t466.length co37)) (fun _ hk => hk.2) (.slice Ao32 t463.length co32)) (fun _ hk => hk.2) (.slice Ao37 t466.length co37)) (fun _ hk => ⟨hk.1.1.1.1, ⟨hk.1.1.1.2.1, ⟨hk.1.1.1.2.2.1, hk.1.1.1.2.2.2⟩⟩⟩)⟩, ⟨by (with_reducible repeat (first | apply Kd.V_alloc | apply Kd.V_drewN | apply Kd.V_drew)); exact Kd.V_mono (Kd.V_far (p := ⟨gb460, 1, none⟩) (Kd.V_far (p := ⟨gb460, 0, none⟩) (Kd.V_far (p := ⟨gb470, 1, none⟩) (Kd.V_far (p := ⟨gb470, 0, none⟩) (Kd.V_mono (Kd.V_mono HO_459001.out (fun k_ hk => (⟨hk, hk.2⟩ : _ ∧ k_ ≠ gb470))) (fun k_ hk => (⟨hk, hk.1.1.2.2.2⟩ : _ ∧ k_ ≠ gb460))) (fun _ hk => hk.1.2) (.slice Ao32 t463.length co32)) (fun _ hk => hk.1.2) (.slice Ao37 t466.length co37)) (fun _ hk => hk.2) (.slice Ao32 t463.length co32)) (fun _ hk => hk.2) (.slice Ao37 t466.length co37)) (fun _ hk => ⟨hk.1.1.1.1, ⟨hk.1.1.1.2.1, ⟨hk.1.1.1.2.2.1, hk.1.1.1.2.2.2⟩⟩⟩)⟩, ⟨by (with_reducible repeat (first | apply Kd.V_alloc | apply Kd.V_drewN | apply Kd.V_drew)); exact Kd.V_mono (Kd.V_far (p := ⟨gb460, 1, none⟩) (Kd.V_far (p := ⟨gb460, 0, none⟩) (Kd.V_far (p := ⟨gb470, 1, none⟩) (Kd.V_far (p := ⟨gb470, 0, none⟩) (Kd.V_mono (Kd.V_mono HO465.out (fun k_ hk => (⟨hk, hk.2⟩ : _ ∧ k_ ≠ gb470))) (fun k_ hk => (⟨hk, hk.1.1.2.2.2⟩ : _ ∧ k_ ≠ gb460))) (fun _ hk => hk.1.2) (.slice Ao32 t463.length co32)) (fun _ hk => hk.1.2) (.slice Ao37 t466.length co37)) (fun _ hk => hk.2) (.slice Ao32 t463.length co32)) (fun _ hk => hk.2) (.slice Ao37 t466.length co37)) (fun _ hk => ⟨hk.1.1.1.1, ⟨hk.1.1.1.2.1, ⟨hk.1.1.1.2.2.1, hk.1.1.1.2.2.2⟩⟩⟩)⟩, ⟨by (with_reducible repeat (first | apply Kd.V_alloc | apply Kd.V_drewN | apply Kd.V_drew)); exact Kd.V_mono (Kd.V_far (p := ⟨gb460, 1, none⟩) (Kd.V_far (p := ⟨gb460, 0, none⟩) (Kd.V_far (p := ⟨gb470, 1, none⟩) (Kd.V_far (p := ⟨gb470, 0, none⟩) (Kd.V_mono (Kd.V_mono HO468.out (fun k_ hk => (⟨hk, hk.2⟩ : _ ∧ k_ ≠ gb470))) (fun k_ hk => (⟨hk, hk.1.1.2.2.2⟩ : _ ∧ k_ ≠ gb460))) (fun _ hk => hk.1.2) (.slice Ao32 t463.length co32)) (fun _ hk => hk.1.2) (.slice Ao37 t466.length co37)) (fun _ hk => hk.2) (.slice Ao32 t463.length co32)) (fun _ hk => hk.2) (.slice Ao37 t466.length co37)) (fun _ hk => ⟨hk.1.1.1.1, ⟨hk.1.1.1.2.1, ⟨hk.1.1.1.2.2.1, hk.1.1.1.2.2.2⟩⟩⟩)⟩, ⟨by (with_reducible repeat (first | apply xN_ | apply xD_ | apply xA_)); refine xR_ ?_ NB458_460.out _; refine xR_ ?_ NB458_460.out _; refine xR_ ?_ NB458_470.out _; refine xR_ ?_ NB458_470.out _; (with_reducible repeat (first | apply xN_ | apply xD_ | apply xA_)); exact BK458.out⟩, ⟨by (with_reducible repeat (first | apply xN_ | apply xD_ | apply xA_)); refine xR_ ?_ NB459_460.out _; refine xR_ ?_ NB459_460.out _; refine xR_ ?_ NB459_470.out _; refine xR_ ?_ NB459_470.out _; (with_reducible repeat (first | apply xN_ | apply xD_ | apply xA_)); exact BK459.out⟩, ⟨by (with_reducible repeat (first | apply xN_ | apply xD_ | apply xA_)); refine blk_put (cs := #[.slice Ao32 t463.length co32, .slice Ao29 x461001_1.length co29]) ?_ 1 _ rfl; refine blk_put (cs := #[.slice Ao28 x461000_1.length co28, .slice Ao29 x461001_1.length co29]) ?_ 0 _ rfl; refine xR_ ?_ NB460_470.out _; refine xR_ ?_ NB460_470.out _; (with_reducible repeat (first | apply xN_ | apply xD_ | apply xA_)); exact BK460.out⟩, ⟨by repeat (first | (with_reducible first | exact HB.out | apply yA_ | apply yN_ | apply yD_ | refine yS_ ?_ GE458.out | refine yS_ ?_ GE459.out | refine yS_ ?_ GE460.out | refine yS_ ?_ GE470.out) | exact HB.out)⟩⟩
          ·exact absurd rfl c24
         ·replace c22 := Bool.eq_false_iff.mpr c22
          subst c22
          have H1 : ((armadaref01_Put.f kj15 x461000_1 x461001_1 ((rd_T49 l1 x9_1).f1) ((rd_T49 l1 x9_1).f2)).bind fun bt473 => (if bt473.2.2 = 0 then (armadaref01_Run.l0 kj15 l1 a2 (wrap64 (x9_1 + 1)) l0_0 l0_1 bt473.1 bt473.2.1) else (some (l0_0, l0_1, bt473.2.2)))) = some (r1, r2, r3) := by rw [if_neg (show ¬ (false = true) by decide)] at H; exact H
          clear H
          have H := H1
          clear H1
          replace H := Option.bind_eq_some_iff.mp H
          obtain ⟨⟨t473, t476, t479⟩, A560, H⟩ := H
          replace H : (if t479 = 0 then (armadaref01_Run.l0 kj15 l1 a2 (wrap64 (x9_1 + 1)) l0_0 l0_1 t473 t476) else (some (l0_0, l0_1, t479))) = some (r1, r2, r3) := H
          have A56 := Aside0.mk A560
          clear A560
          by_cases c57 : t479 = 0
          ·rw [if_pos c57] at H
           have c57b0 : (t479 == 0) = true := beq_iff_eq.mpr c57
           have c57b1 : (t479 != 0) = false := bne_eq_false_iff_eq.mpr c57
           clear c57
           have H' := Aside0.mk H
           clear H
           have p462 : 0 ≤ (x9_1 : Int) := of_decide_eq_true (by first | (with_reducible assumption) | assumption)
           have q462 : x9_1 < (l1.length : Int) := of_decide_eq_true (by first | (with_reducible assumption) | assumption)
           obtain ⟨ad462, e462, hx462_0, hx462_1, hx462_2⟩ := at_T49 HR1.out x9_1 p462 q462
           (try rw [← Nbq21.out] at hx462_0)
           cases e462
           replace hx462_0 := (HB.out.cell (World.block_lt_of_cell? w _ hx462_0)).trans hx462_0
           replace hx462_1 := (HB.out.cell (World.block_lt_of_cell? w _ hx462_1)).trans hx462_1
           replace hx462_2 := (HB.out.cell (World.block_lt_of_cell? w _ hx462_2)).trans hx462_2
           replace p462 := eq_true p462
           replace q462 := eq_true q462
           obtain ⟨Ao58, co58, eo58⟩ := Kd.V_slice HO_461000.out
           subst eo58
           obtain ⟨Ao59, co59, eo59⟩ := Kd.V_slice HO_461001.out
           subst eo59
           try go_wp2
           replace HO_459000 := Aside0.mk (Kd.V_drew HO_459000.out)
           replace HO_459001 := Aside0.mk (Kd.V_drew HO_459001.out)
           replace HO_461000 := Aside0.mk (Kd.V_drew HO_461000.out)
           replace HO_461001 := Aside0.mk (Kd.V_drew HO_461001.out)
           replace BK458 := Aside0.mk (xD_ BK458.out)
           replace BK459 := Aside0.mk (xD_ BK459.out)
           replace BK460 := Aside0.mk (xD_ BK460.out)
           replace HB := Aside0.mk (yD_ HB.out)
           have p471 : 0 ≤ (x9_1 : Int) := of_decide_eq_true (by first | (with_reducible assumption) | assumption)
           have q471 : x9_1 < (l1.length : Int) := of_decide_eq_true (by first | (with_reducible assumption) | assumption)
           obtain ⟨ad471, e471, hx471_0, hx471_1, hx471_2⟩ := at_T49 HR1.out x9_1 p471 q471
           have hw471_2 := hx471_2
           have hw471_1 := hx471_1
           (try rw [← Nbq21.out] at hx471_0)
           have hw471_0 := hx471_0
           obtain rfl : ad462 = ad471 := (by injection e471)
           replace hx471_0 := (HB.out.cell (World.block_lt_of_cell? w _ hx471_0)).trans hx471_0
           replace hx471_1 := (HB.out.cell (World.block_lt_of_cell? w _ hx471_1)).trans hx471_1
           replace hx471_2 := (HB.out.cell (World.block_lt_of_cell? w _ hx471_2)).trans hx471_2
           replace p471 := eq_true p471
           replace q471 := eq_true q471
           have p472 : 0 ≤ (x9_1 : Int) := of_decide_eq_true (by first | (with_reducible assumption) | assumption)
           have q472 : x9_1 < (l1.length : Int) := of_decide_eq_true (by first | (with_reducible assumption) | assumption)
           obtain ⟨ad472, e472, hx472_0, hx472_1, hx472_2⟩ := at_T49 HR1.out x9_1 p472 q472
           have hw472_2 := hx472_2
           have hw472_1 := hx472_1
           (try rw [← Nbq21.out] at hx472_0)
           have hw472_0 := hx472_0
           obtain rfl : ad462 = ad472 := (by injection e472)
           replace hx472_0 := (HB.out.cell (World.block_lt_of_cell? w _ hx472_0)).trans hx472_0
           replace hx472_1 := (HB.out.cell (World.block_lt_of_cell? w _ hx472_1)).trans hx472_1
           replace hx472_2 := (HB.out.cell (World.block_lt_of_cell? w _ hx472_2)).trans hx472_2
           replace p472 := eq_true p472
           replace q472 := eq_true q472
           refine start_ (n := 18) (S := fun w' => w'.cell? ⟨gb460, 0, none⟩ = some (.slice Ao58 x461000_1.length co58) ∧ w'.cell? ⟨gb460, 1, none⟩ = some (.slice Ao59 x461001_1.length co59) ∧ w'.cell? (ad462.add ((x9_1).toNat * 3)) = some (.bool (false)) ∧ w'.cell? ⟨(ad462.add ((x9_1).toNat * 3)).block, (ad462.add ((x9_1).toNat * 3)).off + 1, none⟩ = some (.int .i64 ((rd_T49 l1 x9_1).f1)) ∧ w'.cell? ⟨(ad462.add ((x9_1).toNat * 3)).block, (ad462.add ((x9_1).toNat * 3)).off + 2, none⟩ = some (.string ((rd_T49 l1 x9_1).f2)) ∧ w'.cell? (ad462.add ((x9_1).toNat * 3)) = some (.bool (false)) ∧ w'.cell? ⟨(ad462.add ((x9_1).toNat * 3)).block, (ad462.add ((x9_1).toNat * 3)).off + 1, none⟩ = some (.int .i64 ((rd_T49 l1 x9_1).f1)) ∧ w'.cell? ⟨(ad462.add ((x9_1).toNat * 3)).block, (ad462.add ((x9_1).toNat * 3)).off + 2, none⟩ = some (.string ((rd_T49 l1 x9_1).f2))) (ds := []) #[false, false, false, false, false, false, false, false, false, false, false, false, false, false, false, false, false, false] (by kernel_rfl) rfl rfl ⟨(xC_ BK460.out 0).trans rfl, (xC_ BK460.out 1).trans rfl, ((HB.out.cell (World.block_lt_of_cell? w _ hw471_0)).trans hw471_0), ((HB.out.cell (World.block_lt_of_cell? w _ hw471_1)).trans hw471_1), ((HB.out.cell (World.block_lt_of_cell? w _ hw471_2)).trans hw471_2), ((HB.out.cell (World.block_lt_of_cell? w _ hw472_0)).trans hw472_0), ((HB.out.cell (World.block_lt_of_cell? w _ hw472_1)).trans hw472_1), ((HB.out.cell (World.block_lt_of_cell? w _ hw472_2)).trans hw472_2)⟩ (fun hHeld => ?_); refine with_tabW armadaref01_Run.tab11 armadaref01_Run.bits11 (fun HT_ HW_ => ?_)
           generalize wc.drew = w60 at HO_459000 HO_459001 HO_461000 HO_461001 BK458 BK459 BK460 HB hx471_0 hx471_1 hx471_2 hx472_0 hx472_1 hx472_2 hHeld ⊢
           refine pure_ (i := 1) (N := some 44) (v := ?_) (a' := ?_) #[false, true, false, false, false, false, false, false, false, false, false, false, false, false, false, false, false, false] rfl rfl (any_of HT_.out (by kernel_rfl)) (fun _ _ _ h => h) (Or.inl ⟨by rfl, ?_⟩) ?_ ?_
           rotate_left
           ·intro w'
            go_simp
            with_reducible rfl
           rotate_left
           ·simp only [Act.put, List.setIfInBounds_toArray, List.set_cons_zero, List.set_cons_succ, i64_w, i32_w]
            rfl
           refine pure_ (i := 2) (N := some 45) (v := ?_) (a' := ?_) #[false, true, true, false, false, false, false, false, false, false, false, false, false, false, false, false, false, false] rfl rfl (any_of HT_.out (by kernel_rfl)) (fun _ _ _ h => h) (Or.inl ⟨by rfl, ?_⟩) ?_ ?_
           rotate_left
           ·intro w'
            go_simp
            with_reducible rfl
           rotate_left
           ·simp only [Act.put, List.setIfInBounds_toArray, List.set_cons_zero, List.set_cons_succ, i64_w, i32_w]
            rfl
           refine pure_ (i := 3) (N := some 46) (v := ?_) (a' := ?_) #[false, true, true, true, false, false, false, false, false, false, false, false, false, false, false, false, false, false] rfl rfl (any_of HT_.out (by kernel_rfl)) (fun _ _ _ h => h) (Or.inl ⟨by rfl, ?_⟩) ?_ ?_
           rotate_left
           ·intro w'
            go_simp
            with_reducible rfl
           rotate_left
           ·simp only [Act.put, List.setIfInBounds_toArray, List.set_cons_zero, List.set_cons_succ, i64_w, i32_w]
            rfl
           refine pure_ (i := 4) (N := some 47) (v := ?_) (a' := ?_) #[false, true, true, true, true, false, false, false, false, false, false, false, false, false, false, false, false, false] rfl rfl (any_of HT_.out (by kernel_rfl)) (fun _ _ _ h => h) (Or.inl ⟨by rfl, ?_⟩) ?_ ?_
           rotate_left
           ·intro w'
            go_simp
            with_reducible rfl
           rotate_left
           ·simp only [Act.put, List.setIfInBounds_toArray, List.set_cons_zero, List.set_cons_succ, i64_w, i32_w]
            rfl
           refine pure_ (i := 6) (N := some 49) (v := ?_) (a' := ?_) #[false, true, true, true, true, false, true, false, false, false, false, false, false, false, false, false, false, false] rfl rfl (any_of HT_.out (by kernel_rfl)) (fun _ _ _ h => h) (Or.inl ⟨by rfl, ?_⟩) ?_ ?_
           rotate_left
           ·intro w'
            go_simp
            with_reducible rfl
           rotate_left
           ·simp only [Act.put, List.setIfInBounds_toArray, List.set_cons_zero, List.set_cons_succ, i64_w, i32_w]
            rfl
           refine pure_ (i := 7) (N := some 50) (v := ?_) (a' := ?_) #[false, true, true, true, true, false, true, true, false, false, false, false, false, false, false, false, false, false] rfl rfl (any_of HT_.out (by kernel_rfl)) (fun _ _ _ h => h) (Or.inl ⟨by rfl, ?_⟩) ?_ ?_
           rotate_left
           ·intro w'
            go_simp
            with_reducible rfl
           rotate_left
           ·simp only [Act.put, List.setIfInBounds_toArray, List.set_cons_zero, List.set_cons_succ, i64_w, i32_w]
            rfl
           refine pure_ (i := 8) (N := some 51) (v := ?_) (a' := ?_) #[false, true, true, true, true, false, true, true, true, false, false, false, false, false, false, false, false, false] rfl rfl (any_of HT_.out (by kernel_rfl)) (fun _ _ _ h => h) (Or.inl ⟨by rfl, ?_⟩) ?_ ?_
           rotate_left
           ·intro w'
            go_simp
            with_reducible rfl
           rotate_left
           ·simp only [Act.put, List.setIfInBounds_toArray, List.set_cons_zero, List.set_cons_succ, i64_w, i32_w]
            rfl
           refine pure_ (i := 9) (N := some 52) (v := ?_) (a' := ?_) #[false, true, true, true, true, false, true, true, true, true, false, false, false, false, false, false, false, false] rfl rfl (any_of HT_.out (by kernel_rfl)) (fun _ _ _ h => h) (Or.inl ⟨by rfl, ?_⟩) ?_ ?_
           rotate_left
           ·intro w'
            go_simp
            with_reducible rfl
           rotate_left
           ·simp only [Act.put, List.setIfInBounds_toArray, List.set_cons_zero, List.set_cons_succ, i64_w, i32_w]
            rfl
           refine take_ (i := 0) (N := some 43) (v := ?_) (a' := ?_) #[true, true, true, true, true, false, true, true, true, true, false, false, false, false, false, false, false, false] rfl rfl (take_ofW HT_.out HW_.out (by kernel_rfl)) (fun _ _ _ h => h) (Or.inl ⟨by rfl, ?_⟩) hHeld ?_ ?_
           rotate_left
           ·rintro w' ⟨s0, s1, s2, s3, s4, s5, s6, s7⟩
            go_simp
            with_reducible rfl
           rotate_left
           ·simp only [Act.put, List.setIfInBounds_toArray, List.set_cons_zero, List.set_cons_succ, i64_w, i32_w]
            rfl
           refine take_ (i := 5) (N := some 48) (v := ?_) (a' := ?_) #[true, true, true, true, true, true, true, true, true, true, false, false, false, false, false, false, false, false] rfl rfl (take_ofW HT_.out HW_.out (by kernel_rfl)) (fun _ _ _ h => h) (Or.inl ⟨by rfl, ?_⟩) hHeld ?_ ?_
           rotate_left
           ·rintro w' ⟨s0, s1, s2, s3, s4, s5, s6, s7⟩
            go_simp
            with_reducible rfl
           rotate_left
           ·simp only [Act.put, List.setIfInBounds_toArray, List.set_cons_zero, List.set_cons_succ, i64_w, i32_w]
            rfl
           refine take_ (i := 10) (N := some 53) (v := ?_) (a' := ?_) #[true, true, true, true, true, true, true, true, true, true, true, false, false, false, false, false, false, false] rfl rfl (take_ofW HT_.out HW_.out (by kernel_rfl)) (fun _ _ _ h => h) (Or.inl ⟨by rfl, ?_⟩) hHeld ?_ ?_
           rotate_left
           ·rintro w' ⟨s0, s1, s2, s3, s4, s5, s6, s7⟩
            go_simp
            with_reducible rfl
           rotate_left
           ·simp only [Act.put, List.setIfInBounds_toArray, List.set_cons_zero, List.set_cons_succ, i64_w, i32_w]
            rfl
           refine join_ (σ := Value × Value × Nat) 2 #[true, true, true, true, true, true, true, true, true, true, true, true, true, true, true, true, false, false] (fun s_ => [(54, .tuple #[.agg #[s_.1, s_.2.1], .int .i64 t479]), (13, .pointer (some ⟨s_.2.2, 0, none⟩)), (42, .tuple #[.agg #[s_.1, s_.2.1], .int .i64 t479]), (55, .agg #[s_.1, s_.2.1]), (56, .int .i64 t479)]) (fun s_ w' => (w'.cell? ⟨gb460, 0, none⟩ = some (.slice Ao58 x461000_1.length co58) ∧ w'.cell? ⟨gb460, 1, none⟩ = some (.slice Ao59 x461001_1.length co59) ∧ w'.cell? (ad462.add ((x9_1).toNat * 3)) = some (.bool (false)) ∧ w'.cell? ⟨(ad462.add ((x9_1).toNat * 3)).block, (ad462.add ((x9_1).toNat * 3)).off + 1, none⟩ = some (.int .i64 ((rd_T49 l1 x9_1).f1)) ∧ w'.cell? ⟨(ad462.add ((x9_1).toNat * 3)).block, (ad462.add ((x9_1).toNat * 3)).off + 2, none⟩ = some (.string ((rd_T49 l1 x9_1).f2)) ∧ w'.cell? (ad462.add ((x9_1).toNat * 3)) = some (.bool (false)) ∧ w'.cell? ⟨(ad462.add ((x9_1).toNat * 3)).block, (ad462.add ((x9_1).toNat * 3)).off + 1, none⟩ = some (.int .i64 ((rd_T49 l1 x9_1).f1)) ∧ w'.cell? ⟨(ad462.add ((x9_1).toNat * 3)).block, (ad462.add ((x9_1).toNat * 3)).off + 2, none⟩ = some (.string ((rd_T49 l1 x9_1).f2))) ∧ (Kd.V Kd.string 9 w' w.heap.size (fun k_ => ((P0_0_ k_ ∨ P0_1_ k_) ∨ w.heap.size ≤ k_) ∧ k_ ≠ gb458 ∧ k_ ≠ gb459 ∧ k_ ≠ gb460 ∧ k_ ≠ s_.2.2) s_.1 t473) ∧ (Kd.V k27 27 w' w.heap.size (fun k_ => ((P0_0_ k_ ∨ P0_1_ k_) ∨ w.heap.size ≤ k_) ∧ k_ ≠ gb458 ∧ k_ ≠ gb459 ∧ k_ ≠ gb460 ∧ k_ ≠ s_.2.2) s_.2.1 t476) ∧ (Kd.V Kd.string 9 w' w.heap.size (fun k_ => ((P0_0_ k_ ∨ P0_1_ k_) ∨ w.heap.size ≤ k_) ∧ k_ ≠ gb458 ∧ k_ ≠ gb459 ∧ k_ ≠ gb460 ∧ k_ ≠ s_.2.2) (.slice A0_0 l0_0.length c0_0) l0_0) ∧ (Kd.V k27 27 w' w.heap.size (fun k_ => ((P0_0_ k_ ∨ P0_1_ k_) ∨ w.heap.size ≤ k_) ∧ k_ ≠ gb458 ∧ k_ ≠ gb459 ∧ k_ ≠ gb460 ∧ k_ ≠ s_.2.2) (.slice A0_1 l0_1.length c0_1) l0_1) ∧ (Kd.V Kd.string 9 w' w.heap.size (fun k_ => ((P0_0_ k_ ∨ P0_1_ k_) ∨ w.heap.size ≤ k_) ∧ k_ ≠ gb458 ∧ k_ ≠ gb459 ∧ k_ ≠ gb460 ∧ k_ ≠ s_.2.2) (.slice Ao58 x461000_1.length co58) x461000_1) ∧ (Kd.V k27 27 w' w.heap.size (fun k_ => ((P0_0_ k_ ∨ P0_1_ k_) ∨ w.heap.size ≤ k_) ∧ k_ ≠ gb458 ∧ k_ ≠ gb459 ∧ k_ ≠ gb460 ∧ k_ ≠ s_.2.2) (.slice Ao59 x461001_1.length co59) x461001_1) ∧ (w'.heap[gb458]? = some (.cells #[.slice A0_0 l0_0.length c0_0, .slice A0_1 l0_1.length c0_1] 25 (0, 0))) ∧ (w'.heap[gb459]? = some (.cells #[.slice none 0 0, .slice none 0 0] 25 (0, 0))) ∧ (w'.heap[gb460]? = some (.cells #[.slice Ao58 x461000_1.length co58, .slice Ao59 x461001_1.length co59] 25 (0, 0))) ∧ (w'.heap[s_.2.2]? = some (.cells #[.slice none 0 0, .slice none 0 0] 25 (0, 0))) ∧ (w.heap.size ≤ s_.2.2) ∧ (w.heap.size ≤ s_.2.2) ∧ (gb458 ≠ s_.2.2) ∧ (s_.2.2 ≠ gb458) ∧ (gb459 ≠ s_.2.2) ∧ (s_.2.2 ≠ gb459) ∧ (gb460 ≠ s_.2.2) ∧ (s_.2.2 ≠ gb460) ∧ (Below w.heap.size w w')) ?_ ?_
           rotate_left
           ·intro hCont
            refine two_ (i := 11) (j := 15) (Ni := some 54) (Nj := some 13) #[true, true, true, true, true, true, true, true, true, true, true, true, false, false, false, false, false, false] #[true, true, true, true, true, true, true, true, true, true, true, false, false, false, false, true, false, false] rfl rfl rfl rfl (two_of HT_.out (by kernel_rfl)) (by decide) (by decide) (fun K hK => ?_) (fun K hK => ?_)
            ·skip
             refine goes_ Try.func12 (by kernel_rfl) rfl #[.agg #[.slice Ao58 x461000_1.length co58, .slice Ao59 x461001_1.length co59], .int .i64 ((rd_T49 l1 x9_1).f1), .string ((rd_T49 l1 x9_1).f2)] (by rfl) rfl rfl (by (try simp only [List.map_toArray, List.map_cons, List.map_nil]); first | done | rfl) ?_
             with_reducible refine (armadaref01_Put.calls kj15 (fun k_ => (((P0_0_ k_ ∨ P0_1_ k_) ∨ w.heap.size ≤ k_) ∧ (k_ ≠ gb458 ∧ (k_ ≠ gb459 ∧ k_ ≠ gb460)))) _ _ x461000_1 (fun k_ => (((P0_0_ k_ ∨ P0_1_ k_) ∨ w.heap.size ≤ k_) ∧ (k_ ≠ gb458 ∧ (k_ ≠ gb459 ∧ k_ ≠ gb460)))) _ _ x461001_1 ((rd_T49 l1 x9_1).f1) ((rd_T49 l1 x9_1).f2) t473 t476 t479 _ ?side1 ?side2 A56.out).mono ?_
             (case side1 => exact HO_461000.out)
             (case side2 => exact HO_461001.out)
             rintro e w61 ⟨v474, v477, rfl, ho0, ho1, hb⟩
             refine ⟨_, rfl, ?_⟩
             have hz_ := zq HB (by repeat (first | (with_reducible first | exact Below.refl _ _ | apply yA_ | apply yN_ | apply yD_) | exact Below.refl _ _)) hb
             replace hb := below_step hz_ hb
             replace HO_459000 := zV HO_459000 hb
             replace HO_459001 := zV HO_459001 hb
             replace HO_461000 := zV HO_461000 hb
             replace HO_461001 := zV HO_461001 hb
             have HO475 := Aside0.mk (Kd.V_lower (Kd.V_mono (ok' := fun k_ => ((P0_0_ k_ ∨ P0_1_ k_) ∨ w.heap.size ≤ k_) ∧ k_ ≠ gb458 ∧ k_ ≠ gb459 ∧ k_ ≠ gb460) ho0 (fun k_ hk_ => ⟨Or.elim hk_ (fun hs_ => Or.elim hs_ (fun hs_ => hs_.1) (fun hs_ => hs_.1)) (fun hn_ => (.inr (Nat.le_trans (zs HB hz_) hn_))), Or.elim hk_ (fun hs_ => Or.elim hs_ (fun hs_ => hs_.2.1) (fun hs_ => hs_.2.1)) (zf BK458 hz_ k_), Or.elim hk_ (fun hs_ => Or.elim hs_ (fun hs_ => hs_.2.2.1) (fun hs_ => hs_.2.2.1)) (zf BK459 hz_ k_), Or.elim hk_ (fun hs_ => Or.elim hs_ (fun hs_ => hs_.2.2.2) (fun hs_ => hs_.2.2.2)) (zf BK460 hz_ k_)⟩)) (zs HB hz_))
             have HO478 := Aside0.mk (Kd.V_lower (Kd.V_mono (ok' := fun k_ => ((P0_0_ k_ ∨ P0_1_ k_) ∨ w.heap.size ≤ k_) ∧ k_ ≠ gb458 ∧ k_ ≠ gb459 ∧ k_ ≠ gb460) ho1 (fun k_ hk_ => ⟨Or.elim hk_ (fun hs_ => Or.elim hs_ (fun hs_ => hs_.1) (fun hs_ => hs_.1)) (fun hn_ => (.inr (Nat.le_trans (zs HB hz_) hn_))), Or.elim hk_ (fun hs_ => Or.elim hs_ (fun hs_ => hs_.2.1) (fun hs_ => hs_.2.1)) (zf BK458 hz_ k_), Or.elim hk_ (fun hs_ => Or.elim hs_ (fun hs_ => hs_.2.2.1) (fun hs_ => hs_.2.2.1)) (zf BK459 hz_ k_), Or.elim hk_ (fun hs_ => Or.elim hs_ (fun hs_ => hs_.2.2.2) (fun hs_ => hs_.2.2.2)) (zf BK460 hz_ k_)⟩)) (zs HB hz_))
             replace BK458 := zB BK458 hb
             replace BK459 := zB BK459 hb
             replace BK460 := zB BK460 hb
             replace HB := zH HB hb
             clear hz_
             (try clear hb)
             (try clear hb2)
             (try clear hk)
             (try clear hi)
             (try clear ho0)
             (try clear ho1)
             refine hK.out _ _ ⟨(xC_ BK460.out 0).trans rfl, (xC_ BK460.out 1).trans rfl, ((HB.out.cell (World.block_lt_of_cell? w _ hw471_0)).trans hw471_0), ((HB.out.cell (World.block_lt_of_cell? w _ hw471_1)).trans hw471_1), ((HB.out.cell (World.block_lt_of_cell? w _ hw471_2)).trans hw471_2), ((HB.out.cell (World.block_lt_of_cell? w _ hw472_0)).trans hw472_0), ((HB.out.cell (World.block_lt_of_cell? w _ hw472_1)).trans hw472_1), ((HB.out.cell (World.block_lt_of_cell? w _ hw472_2)).trans hw472_2)⟩ (fun hHeld => ?_)
             clear hK K
             refine norm_ (a' := ?_) ?_ ?_
             rotate_left
             ·show Act.put _ (some 54) _ = _
              simp only [Act.put, List.setIfInBounds_toArray, List.set_cons_zero, List.set_cons_succ, i64_w, i32_w]
              rfl
             refine pure_ (i := 12) (N := some 42) (v := ?_) (a' := ?_) #[true, true, true, true, true, true, true, true, true, true, true, true, true, false, false, false, false, false] rfl rfl (any_of HT_.out (by kernel_rfl)) (fun _ _ _ h => h) (Or.inl ⟨by rfl, ?_⟩) ?_ ?_
             rotate_left
             ·intro w'
              go_simp
              with_reducible rfl
             rotate_left
             ·simp only [Act.put, List.setIfInBounds_toArray, List.set_cons_zero, List.set_cons_succ, i64_w, i32_w]
              rfl
             refine pure_ (i := 13) (N := some 55) (v := ?_) (a' := ?_) #[true, true, true, true, true, true, true, true, true, true, true, true, true, true, false, false, false, false] rfl rfl (any_of HT_.out (by kernel_rfl)) (fun _ _ _ h => h) (Or.inl ⟨by rfl, ?_⟩) ?_ ?_
             rotate_left
             ·intro w'
              go_simp
              with_reducible rfl
             rotate_left
             ·simp only [Act.put, List.setIfInBounds_toArray, List.set_cons_zero, List.set_cons_succ, i64_w, i32_w]
              rfl
             refine pure_ (i := 14) (N := some 56) (v := ?_) (a' := ?_) #[true, true, true, true, true, true, true, true, true, true, true, true, true, true, true, false, false, false] rfl rfl (any_of HT_.out (by kernel_rfl)) (fun _ _ _ h => h) (Or.inl ⟨by rfl, ?_⟩) ?_ ?_
             rotate_left
             ·intro w'
              go_simp
              with_reducible rfl
             rotate_left
             ·simp only [Act.put, List.setIfInBounds_toArray, List.set_cons_zero, List.set_cons_succ, i64_w, i32_w]
              rfl
             refine one_ (i := 15) (N := some 13) #[true, true, true, true, true, true, true, true, true, true, true, true, true, true, true, true, false, false] rfl rfl (one_of HT_.out (by kernel_rfl)) (by decide) (fun K hK => ?_)
             refine box_step ?hg (N := 13) ?hd (cs := #[.slice none 0 0, .slice none 0 0]) (t := 25) ?hr ?_; (case hd => rfl); (case hg => rfl); (case hr => first | (go_simp; done) | (go_simp; rfl))
             intro gb480 hg w62 hbox hb
             have hz_ := zq HB (by repeat (first | (with_reducible first | exact Below.refl _ _ | apply yA_ | apply yN_ | apply yD_) | exact Below.refl _ _)) hb
             replace hb := below_step hz_ hb
             replace HO_459000 := zE HO_459000 hz_ hg hb
             replace HO_459001 := zE HO_459001 hz_ hg hb
             replace HO_461000 := zE HO_461000 hz_ hg hb
             replace HO_461001 := zE HO_461001 hz_ hg hb
             replace HO475 := zE HO475 hz_ hg hb
             replace HO478 := zE HO478 hz_ hg hb
             have BK480 := Aside0.mk hbox
             have GW480 := zG HB hz_ hg
             have GE480 := zG HB hz_ hg
             have NB458_480 := zN BK458 hz_ hg
             have NB480_458 := zM BK458 hz_ hg
             have NB459_480 := zN BK459 hz_ hg
             have NB480_459 := zM BK459 hz_ hg
             have NB460_480 := zN BK460 hz_ hg
             have NB480_460 := zM BK460 hz_ hg
             replace BK458 := zB BK458 hb
             replace BK459 := zB BK459 hb
             replace BK460 := zB BK460 hb
             replace HB := zH HB hb
             clear hz_
             clear hb hbox hg
             refine hK.out _ _ ⟨(xC_ BK460.out 0).trans rfl, (xC_ BK460.out 1).trans rfl, ((HB.out.cell (World.block_lt_of_cell? w _ hw471_0)).trans hw471_0), ((HB.out.cell (World.block_lt_of_cell? w _ hw471_1)).trans hw471_1), ((HB.out.cell (World.block_lt_of_cell? w _ hw471_2)).trans hw471_2), ((HB.out.cell (World.block_lt_of_cell? w _ hw472_0)).trans hw472_0), ((HB.out.cell (World.block_lt_of_cell? w _ hw472_1)).trans hw472_1), ((HB.out.cell (World.block_lt_of_cell? w _ hw472_2)).trans hw472_2)⟩ (fun hHeld => ?_)
             clear hK K
             refine norm_ (a' := ?_) ?_ ?_
             rotate_left
             ·show Act.put _ (some 13) _ = _
              simp only [Act.put, List.setIfInBounds_toArray, List.set_cons_zero, List.set_cons_succ, i64_w, i32_w]
              rfl
             exact norm_ (by simp only [putAll, Act.put, List.setIfInBounds_toArray, List.set_cons_zero, List.set_cons_succ]) (hCont (v474, v477, gb480) _ ⟨hHeld, (by (with_reducible repeat (first | apply Kd.V_alloc | apply Kd.V_drewN | apply Kd.V_drew)); exact Kd.V_mono HO475.out (fun _ hk => ⟨hk.1.1, ⟨hk.1.2.1, ⟨hk.1.2.2.1, ⟨hk.1.2.2.2, hk.2⟩⟩⟩⟩)), (by (with_reducible repeat (first | apply Kd.V_alloc | apply Kd.V_drewN | apply Kd.V_drew)); exact Kd.V_mono HO478.out (fun _ hk => ⟨hk.1.1, ⟨hk.1.2.1, ⟨hk.1.2.2.1, ⟨hk.1.2.2.2, hk.2⟩⟩⟩⟩)), (by (with_reducible repeat (first | apply Kd.V_alloc | apply Kd.V_drewN | apply Kd.V_drew)); exact Kd.V_mono HO_459000.out (fun _ hk => ⟨hk.1.1, ⟨hk.1.2.1, ⟨hk.1.2.2.1, ⟨hk.1.2.2.2, hk.2⟩⟩⟩⟩)), (by (with_reducible repeat (first | apply Kd.V_alloc | apply Kd.V_drewN | apply Kd.V_drew)); exact Kd.V_mono HO_459001.out (fun _ hk => ⟨hk.1.1, ⟨hk.1.2.1, ⟨hk.1.2.2.1, ⟨hk.1.2.2.2, hk.2⟩⟩⟩⟩)), (by (with_reducible repeat (first | apply Kd.V_alloc | apply Kd.V_drewN | apply Kd.V_drew)); exact Kd.V_mono HO_461000.out (fun _ hk => ⟨hk.1.1, ⟨hk.1.2.1, ⟨hk.1.2.2.1, ⟨hk.1.2.2.2, hk.2⟩⟩⟩⟩)), (by (with_reducible repeat (first | apply Kd.V_alloc | apply Kd.V_drewN | apply Kd.V_drew)); exact Kd.V_mono HO_461001.out (fun _ hk => ⟨hk.1.1, ⟨hk.1.2.1, ⟨hk.1.2.2.1, ⟨hk.1.2.2.2, hk.2⟩⟩⟩⟩)), (by (with_reducible repeat (first | apply xN_ | apply xD_ | apply xA_)); exact BK458.out), (by (with_reducible repeat (first | apply xN_ | apply xD_ | apply xA_)); exact BK459.out), (by (with_reducible repeat (first | apply xN_ | apply xD_ | apply xA_)); exact BK460.out), (by (with_reducible repeat (first | apply xN_ | apply xD_ | apply xA_)); exact BK480.out), GW480.out, GE480.out, NB458_480.out, NB480_458.out, NB459_480.out, NB480_459.out, NB460_480.out, NB480_460.out, (by repeat (first | (with_reducible first | exact HB.out | apply yA_ | apply yN_ | apply yD_ | refine yS_ ?_ GE458.out | refine yS_ ?_ GE459.out | refine yS_ ?_ GE460.out | refine yS_ ?_ GE480.out) | exact HB.out))⟩)
            ·skip
             refine box_step ?hg (N := 13) ?hd (cs := #[.slice none 0 0, .slice none 0 0]) (t := 25) ?hr ?_; (case hd => rfl); (case hg => rfl); (case hr => first | (go_simp; done) | (go_simp; rfl))
             intro gb480 hg w61 hbox hb
             have hz_ := zq HB (by repeat (first | (with_reducible first | exact Below.refl _ _ | apply yA_ | apply yN_ | apply yD_) | exact Below.refl _ _)) hb
             replace hb := below_step hz_ hb
             replace HO_459000 := zE HO_459000 hz_ hg hb
             replace HO_459001 := zE HO_459001 hz_ hg hb
             replace HO_461000 := zE HO_461000 hz_ hg hb
             replace HO_461001 := zE HO_461001 hz_ hg hb
             have BK480 := Aside0.mk hbox
             have GW480 := zG HB hz_ hg
             have GE480 := zG HB hz_ hg
             have NB458_480 := zN BK458 hz_ hg
             have NB480_458 := zM BK458 hz_ hg
             have NB459_480 := zN BK459 hz_ hg
             have NB480_459 := zM BK459 hz_ hg
             have NB460_480 := zN BK460 hz_ hg
             have NB480_460 := zM BK460 hz_ hg
             replace BK458 := zB BK458 hb
             replace BK459 := zB BK459 hb
             replace BK460 := zB BK460 hb
             replace HB := zH HB hb
             clear hz_
             clear hb hbox hg
             refine hK.out _ _ ⟨(xC_ BK460.out 0).trans rfl, (xC_ BK460.out 1).trans rfl, ((HB.out.cell (World.block_lt_of_cell? w _ hw471_0)).trans hw471_0), ((HB.out.cell (World.block_lt_of_cell? w _ hw471_1)).trans hw471_1), ((HB.out.cell (World.block_lt_of_cell? w _ hw471_2)).trans hw471_2), ((HB.out.cell (World.block_lt_of_cell? w _ hw472_0)).trans hw472_0), ((HB.out.cell (World.block_lt_of_cell? w _ hw472_1)).trans hw472_1), ((HB.out.cell (World.block_lt_of_cell? w _ hw472_2)).trans hw472_2)⟩ (fun hHeld => ?_)
             clear hK K
             refine norm_ (a' := ?_) ?_ ?_
             rotate_left
             ·show Act.put _ (some 13) _ = _
              simp only [Act.put, List.setIfInBounds_toArray, List.set_cons_zero, List.set_cons_succ, i64_w, i32_w]
              rfl
             refine one_ (i := 11) (N := some 54) #[true, true, true, true, true, true, true, true, true, true, true, true, false, false, false, true, false, false] rfl rfl (one_of HT_.out (by kernel_rfl)) (by decide) (fun K hK => ?_)
             refine goes_ Try.func12 (by kernel_rfl) rfl #[.agg #[.slice Ao58 x461000_1.length co58, .slice Ao59 x461001_1.length co59], .int .i64 ((rd_T49 l1 x9_1).f1), .string ((rd_T49 l1 x9_1).f2)] (by rfl) rfl rfl (by (try simp only [List.map_toArray, List.map_cons, List.map_nil]); first | done | rfl) ?_
             with_reducible refine (armadaref01_Put.calls kj15 (fun k_ => ((((P0_0_ k_ ∨ P0_1_ k_) ∨ w.heap.size ≤ k_) ∧ (k_ ≠ gb458 ∧ (k_ ≠ gb459 ∧ k_ ≠ gb460))) ∧ k_ ≠ gb480)) _ _ x461000_1 (fun k_ => ((((P0_0_ k_ ∨ P0_1_ k_) ∨ w.heap.size ≤ k_) ∧ (k_ ≠ gb458 ∧ (k_ ≠ gb459 ∧ k_ ≠ gb460))) ∧ k_ ≠ gb480)) _ _ x461001_1 ((rd_T49 l1 x9_1).f1) ((rd_T49 l1 x9_1).f2) t473 t476 t479 _ ?side1 ?side2 A56.out).mono ?_
             (case side1 => exact HO_461000.out)
             (case side2 => exact HO_461001.out)
             rintro e w62 ⟨v474, v477, rfl, ho0, ho1, hb⟩
             refine ⟨_, rfl, ?_⟩
             have hz_ := zq HB (by repeat (first | (with_reducible first | exact Below.refl _ _ | apply yA_ | apply yN_ | apply yD_) | exact Below.refl _ _)) hb
             replace hb := below_step hz_ hb
             replace HO_459000 := zV HO_459000 hb
             replace HO_459001 := zV HO_459001 hb
             replace HO_461000 := zV HO_461000 hb
             replace HO_461001 := zV HO_461001 hb
             have HO475 := Aside0.mk (Kd.V_lower (Kd.V_mono (ok' := fun k_ => ((P0_0_ k_ ∨ P0_1_ k_) ∨ w.heap.size ≤ k_) ∧ k_ ≠ gb458 ∧ k_ ≠ gb459 ∧ k_ ≠ gb460 ∧ k_ ≠ gb480) ho0 (fun k_ hk_ => ⟨Or.elim hk_ (fun hs_ => Or.elim hs_ (fun hs_ => hs_.1.1) (fun hs_ => hs_.1.1)) (fun hn_ => (.inr (Nat.le_trans (zs HB hz_) hn_))), Or.elim hk_ (fun hs_ => Or.elim hs_ (fun hs_ => hs_.1.2.1) (fun hs_ => hs_.1.2.1)) (zf BK458 hz_ k_), Or.elim hk_ (fun hs_ => Or.elim hs_ (fun hs_ => hs_.1.2.2.1) (fun hs_ => hs_.1.2.2.1)) (zf BK459 hz_ k_), Or.elim hk_ (fun hs_ => Or.elim hs_ (fun hs_ => hs_.1.2.2.2) (fun hs_ => hs_.1.2.2.2)) (zf BK460 hz_ k_), Or.elim hk_ (fun hs_ => Or.elim hs_ (fun hs_ => hs_.2) (fun hs_ => hs_.2)) (zf BK480 hz_ k_)⟩)) (zs HB hz_))
             have HO478 := Aside0.mk (Kd.V_lower (Kd.V_mono (ok' := fun k_ => ((P0_0_ k_ ∨ P0_1_ k_) ∨ w.heap.size ≤ k_) ∧ k_ ≠ gb458 ∧ k_ ≠ gb459 ∧ k_ ≠ gb460 ∧ k_ ≠ gb480) ho1 (fun k_ hk_ => ⟨Or.elim hk_ (fun hs_ => Or.elim hs_ (fun hs_ => hs_.1.1) (fun hs_ => hs_.1.1)) (fun hn_ => (.inr (Nat.le_trans (zs HB hz_) hn_))), Or.elim hk_ (fun hs_ => Or.elim hs_ (fun hs_ => hs_.1.2.1) (fun hs_ => hs_.1.2.1)) (zf BK458 hz_ k_), Or.elim hk_ (fun hs_ => Or.elim hs_ (fun hs_ => hs_.1.2.2.1) (fun hs_ => hs_.1.2.2.1)) (zf BK459 hz_ k_), Or.elim hk_ (fun hs_ => Or.elim hs_ (fun hs_ => hs_.1.2.2.2) (fun hs_ => hs_.1.2.2.2)) (zf BK460 hz_ k_), Or.elim hk_ (fun hs_ => Or.elim hs_ (fun hs_ => hs_.2) (fun hs_ => hs_.2)) (zf BK480 hz_ k_)⟩)) (zs HB hz_))
             replace BK458 := zB BK458 hb
             replace BK459 := zB BK459 hb
             replace BK460 := zB BK460 hb
             replace BK480 := zB BK480 hb
             replace HB := zH HB hb
             clear hz_
             (try clear hb)
             (try clear hb2)
             (try clear hk)
             (try clear hi)
             (try clear ho0)
             (try clear ho1)
             refine hK.out _ _ ⟨(xC_ BK460.out 0).trans rfl, (xC_ BK460.out 1).trans rfl, ((HB.out.cell (World.block_lt_of_cell? w _ hw471_0)).trans hw471_0), ((HB.out.cell (World.block_lt_of_cell? w _ hw471_1)).trans hw471_1), ((HB.out.cell (World.block_lt_of_cell? w _ hw471_2)).trans hw471_2), ((HB.out.cell (World.block_lt_of_cell? w _ hw472_0)).trans hw472_0), ((HB.out.cell (World.block_lt_of_cell? w _ hw472_1)).trans hw472_1), ((HB.out.cell (World.block_lt_of_cell? w _ hw472_2)).trans hw472_2)⟩ (fun hHeld => ?_)
             clear hK K
             refine norm_ (a' := ?_) ?_ ?_
             rotate_left
             ·show Act.put _ (some 54) _ = _
              simp only [Act.put, List.setIfInBounds_toArray, List.set_cons_zero, List.set_cons_succ, i64_w, i32_w]
              rfl
             refine pure_ (i := 12) (N := some 42) (v := ?_) (a' := ?_) #[true, true, true, true, true, true, true, true, true, true, true, true, true, false, false, true, false, false] rfl rfl (any_of HT_.out (by kernel_rfl)) (fun _ _ _ h => h) (Or.inl ⟨by rfl, ?_⟩) ?_ ?_
             rotate_left
             ·intro w'
              go_simp
              with_reducible rfl
             rotate_left
             ·simp only [Act.put, List.setIfInBounds_toArray, List.set_cons_zero, List.set_cons_succ, i64_w, i32_w]
              rfl
             refine pure_ (i := 13) (N := some 55) (v := ?_) (a' := ?_) #[true, true, true, true, true, true, true, true, true, true, true, true, true, true, false, true, false, false] rfl rfl (any_of HT_.out (by kernel_rfl)) (fun _ _ _ h => h) (Or.inl ⟨by rfl, ?_⟩) ?_ ?_
             rotate_left
             ·intro w'
              go_simp
              with_reducible rfl
             rotate_left
             ·simp only [Act.put, List.setIfInBounds_toArray, List.set_cons_zero, List.set_cons_succ, i64_w, i32_w]
              rfl
             refine pure_ (i := 14) (N := some 56) (v := ?_) (a' := ?_) #[true, true, true, true, true, true, true, true, true, true, true, true, true, true, true, true, false, false] rfl rfl (any_of HT_.out (by kernel_rfl)) (fun _ _ _ h => h) (Or.inl ⟨by rfl, ?_⟩) ?_ ?_
             rotate_left
             ·intro w'
              go_simp
              with_reducible rfl
             rotate_left
             ·simp only [Act.put, List.setIfInBounds_toArray, List.set_cons_zero, List.set_cons_succ, i64_w, i32_w]
              rfl
             exact norm_ (by simp only [putAll, Act.put, List.setIfInBounds_toArray, List.set_cons_zero, List.set_cons_succ]) (hCont (v474, v477, gb480) _ ⟨hHeld, (by (with_reducible repeat (first | apply Kd.V_alloc | apply Kd.V_drewN | apply Kd.V_drew)); exact HO475.out), (by (with_reducible repeat (first | apply Kd.V_alloc | apply Kd.V_drewN | apply Kd.V_drew)); exact HO478.out), (by (with_reducible repeat (first | apply Kd.V_alloc | apply Kd.V_drewN | apply Kd.V_drew)); exact Kd.V_mono HO_459000.out (fun _ hk => ⟨hk.1.1, ⟨hk.1.2.1, ⟨hk.1.2.2.1, ⟨hk.1.2.2.2, hk.2⟩⟩⟩⟩)), (by (with_reducible repeat (first | apply Kd.V_alloc | apply Kd.V_drewN | apply Kd.V_drew)); exact Kd.V_mono HO_459001.out (fun _ hk => ⟨hk.1.1, ⟨hk.1.2.1, ⟨hk.1.2.2.1, ⟨hk.1.2.2.2, hk.2⟩⟩⟩⟩)), (by (with_reducible repeat (first | apply Kd.V_alloc | apply Kd.V_drewN | apply Kd.V_drew)); exact Kd.V_mono HO_461000.out (fun _ hk => ⟨hk.1.1, ⟨hk.1.2.1, ⟨hk.1.2.2.1, ⟨hk.1.2.2.2, hk.2⟩⟩⟩⟩)), (by (with_reducible repeat (first | apply Kd.V_alloc | apply Kd.V_drewN | apply Kd.V_drew)); exact Kd.V_mono HO_461001.out (fun _ hk => ⟨hk.1.1, ⟨hk.1.2.1, ⟨hk.1.2.2.1, ⟨hk.1.2.2.2, hk.2⟩⟩⟩⟩)), (by (with_reducible repeat (first | apply xN_ | apply xD_ | apply xA_)); exact BK458.out), (by (with_reducible repeat (first | apply xN_ | apply xD_ | apply xA_)); exact BK459.out), (by (with_reducible repeat (first | apply xN_ | apply xD_ | apply xA_)); exact BK460.out), (by (with_reducible repeat (first | apply xN_ | apply xD_ | apply xA_)); exact BK480.out), GW480.out, GE480.out, NB458_480.out, NB480_458.out, NB459_480.out, NB480_459.out, NB460_480.out, NB480_460.out, (by repeat (first | (with_reducible first | exact HB.out | apply yA_ | apply yN_ | apply yD_ | refine yS_ ?_ GE458.out | refine yS_ ?_ GE459.out | refine yS_ ?_ GE460.out | refine yS_ ?_ GE480.out) | exact HB.out))⟩)
           rintro ⟨v474, v477, gb480⟩ w63 ⟨hS_, h0_, h1_, h2_, h3_, h4_, h5_, h6_, h7_, h8_, h9_, h10_, h11_, h12_, h13_, h14_, h15_, h16_, h17_, h18_⟩
           have n0_ : Aside0 (Kd.V Kd.string 9 w63 w.heap.size (fun k_ => ((P0_0_ k_ ∨ P0_1_ k_) ∨ w.heap.size ≤ k_) ∧ k_ ≠ gb458 ∧ k_ ≠ gb459 ∧ k_ ≠ gb460 ∧ k_ ≠ gb480) v474 t473) := ⟨h0_⟩
           have n1_ : Aside0 (Kd.V k27 27 w63 w.heap.size (fun k_ => ((P0_0_ k_ ∨ P0_1_ k_) ∨ w.heap.size ≤ k_) ∧ k_ ≠ gb458 ∧ k_ ≠ gb459 ∧ k_ ≠ gb460 ∧ k_ ≠ gb480) v477 t476) := ⟨h1_⟩
           have n2_ : Aside0 (Kd.V Kd.string 9 w63 w.heap.size (fun k_ => ((P0_0_ k_ ∨ P0_1_ k_) ∨ w.heap.size ≤ k_) ∧ k_ ≠ gb458 ∧ k_ ≠ gb459 ∧ k_ ≠ gb460 ∧ k_ ≠ gb480) (.slice A0_0 l0_0.length c0_0) l0_0) := ⟨h2_⟩
           have n3_ : Aside0 (Kd.V k27 27 w63 w.heap.size (fun k_ => ((P0_0_ k_ ∨ P0_1_ k_) ∨ w.heap.size ≤ k_) ∧ k_ ≠ gb458 ∧ k_ ≠ gb459 ∧ k_ ≠ gb460 ∧ k_ ≠ gb480) (.slice A0_1 l0_1.length c0_1) l0_1) := ⟨h3_⟩
           have n4_ : Aside0 (Kd.V Kd.string 9 w63 w.heap.size (fun k_ => ((P0_0_ k_ ∨ P0_1_ k_) ∨ w.heap.size ≤ k_) ∧ k_ ≠ gb458 ∧ k_ ≠ gb459 ∧ k_ ≠ gb460 ∧ k_ ≠ gb480) (.slice Ao58 x461000_1.length co58) x461000_1) := ⟨h4_⟩
           have n5_ : Aside0 (Kd.V k27 27 w63 w.heap.size (fun k_ => ((P0_0_ k_ ∨ P0_1_ k_) ∨ w.heap.size ≤ k_) ∧ k_ ≠ gb458 ∧ k_ ≠ gb459 ∧ k_ ≠ gb460 ∧ k_ ≠ gb480) (.slice Ao59 x461001_1.length co59) x461001_1) := ⟨h5_⟩
           have n6_ : Aside0 (w63.heap[gb458]? = some (.cells #[.slice A0_0 l0_0.length c0_0, .slice A0_1 l0_1.length c0_1] 25 (0, 0))) := ⟨h6_⟩
           have n7_ : Aside0 (w63.heap[gb459]? = some (.cells #[.slice none 0 0, .slice none 0 0] 25 (0, 0))) := ⟨h7_⟩
           have n8_ : Aside0 (w63.heap[gb460]? = some (.cells #[.slice Ao58 x461000_1.length co58, .slice Ao59 x461001_1.length co59] 25 (0, 0))) := ⟨h8_⟩
           have n9_ : Aside0 (w63.heap[gb480]? = some (.cells #[.slice none 0 0, .slice none 0 0] 25 (0, 0))) := ⟨h9_⟩
           have n10_ : Aside0 (w.heap.size ≤ gb480) := ⟨h10_⟩
           have n11_ : Aside0 (w.heap.size ≤ gb480) := ⟨h11_⟩
           have n12_ : Aside0 (gb458 ≠ gb480) := ⟨h12_⟩
           have n13_ : Aside0 (gb480 ≠ gb458) := ⟨h13_⟩
           have n14_ : Aside0 (gb459 ≠ gb480) := ⟨h14_⟩
           have n15_ : Aside0 (gb480 ≠ gb459) := ⟨h15_⟩
           have n16_ : Aside0 (gb460 ≠ gb480) := ⟨h16_⟩
           have n17_ : Aside0 (gb480 ≠ gb460) := ⟨h17_⟩
           have n18_ : Aside0 (Below w.heap.size w w63) := ⟨h18_⟩
           clear HO_459000
           clear HO_459001
           clear HO_461000
           clear HO_461001
           clear BK458
           clear BK459
           clear BK460
           clear HB
           clear h0_ h1_ h2_ h3_ h4_ h5_ h6_ h7_ h8_ h9_ h10_ h11_ h12_ h13_ h14_ h15_ h16_ h17_ h18_
           have HO475 := n0_
           have HO478 := n1_
           have HO_459000 := n2_
           have HO_459001 := n3_
           have HO_461000 := n4_
           have HO_461001 := n5_
           have BK458 := n6_
           have BK459 := n7_
           have BK460 := n8_
           have BK480 := n9_
           have GW480 := n10_
           have GE480 := n11_
           have NB458_480 := n12_
           have NB480_458 := n13_
           have NB459_480 := n14_
           have NB480_459 := n15_
           have NB460_480 := n16_
           have NB480_460 := n17_
           have HB := n18_
           clear n0_ n1_ n2_ n3_ n4_ n5_ n6_ n7_ n8_ n9_ n10_ n11_ n12_ n13_ n14_ n15_ n16_ n17_ n18_
           have hHeld : w63.cell? ⟨gb460, 0, none⟩ = some (.slice Ao58 x461000_1.length co58) ∧ w63.cell? ⟨gb460, 1, none⟩ = some (.slice Ao59 x461001_1.length co59) ∧ w63.cell? (ad462.add ((x9_1).toNat * 3)) = some (.bool (false)) ∧ w63.cell? ⟨(ad462.add ((x9_1).toNat * 3)).block, (ad462.add ((x9_1).toNat * 3)).off + 1, none⟩ = some (.int .i64 ((rd_T49 l1 x9_1).f1)) ∧ w63.cell? ⟨(ad462.add ((x9_1).toNat * 3)).block, (ad462.add ((x9_1).toNat * 3)).off + 2, none⟩ = some (.string ((rd_T49 l1 x9_1).f2)) ∧ w63.cell? (ad462.add ((x9_1).toNat * 3)) = some (.bool (false)) ∧ w63.cell? ⟨(ad462.add ((x9_1).toNat * 3)).block, (ad462.add ((x9_1).toNat * 3)).off + 1, none⟩ = some (.int .i64 ((rd_T49 l1 x9_1).f1)) ∧ w63.cell? ⟨(ad462.add ((x9_1).toNat * 3)).block, (ad462.add ((x9_1).toNat * 3)).off + 2, none⟩ = some (.string ((rd_T49 l1 x9_1).f2)) := hS_
           obtain ⟨Ao64, co64, eo64⟩ := Kd.V_slice HO475.out
           (first | subst eo64 | (injection eo64 with f1_ f2_ f3_; have f4_ := f1_.symm; have f5_ := f3_.symm; clear f1_ f2_ f3_; subst f4_; subst f5_))
           obtain ⟨Ao66, co66, eo66⟩ := Kd.V_slice HO478.out
           (first | subst eo66 | (injection eo66 with f1_ f2_ f3_; have f4_ := f1_.symm; have f5_ := f3_.symm; clear f1_ f2_ f3_; subst f4_; subst f5_))
           refine norm_ (a' := ?_) ?_ ?_
           rotate_left
           ·simp only [putAll, Act.put, List.setIfInBounds_toArray, List.set_cons_zero, List.set_cons_succ]
            rfl
           refine one_ (i := 16) (N := none) #[true, true, true, true, true, true, true, true, true, true, true, true, true, true, true, true, true, false] rfl rfl (one_of HT_.out (by kernel_rfl)) (by decide) (fun K hK => ?_)
           have hs65 : w63.cell? ⟨gb480, 0, none⟩ = some (.slice none 0 0) := (xC_ BK480.out 0).trans rfl
           have hfs65 := xF_ BK480.out 0
           have hns65_0 := NB458_480.out
           have hns65_1 := NB459_480.out
           have hns65_2 := NB460_480.out
           have hms65_0 := NB480_458.out
           have hms65_1 := NB480_459.out
           have hms65_2 := NB480_460.out
           have hs67 : w63.cell? ⟨gb480, 1, none⟩ = some (.slice none 0 0) := (xC_ BK480.out 1).trans rfl
           have hfs67 := xF_ BK480.out 1
           have hns67_0 := NB458_480.out
           have hns67_1 := NB459_480.out
           have hns67_2 := NB460_480.out
           have hms67_0 := NB480_458.out
           have hms67_1 := NB480_459.out
           have hms67_2 := NB480_460.out
           refine skip_ (w1 := ?_) (by rfl) rfl ?_ ?_
           rotate_left
           ·go_simp
            rfl
           refine hK.out _ _ ⟨((cell_far (p := ⟨gb480, _, none⟩) NB460_480.out _).trans (((cell_far (p := ⟨gb480, _, none⟩) NB460_480.out _).trans (hHeld.1)))), ((cell_far (p := ⟨gb480, _, none⟩) NB460_480.out _).trans (((cell_far (p := ⟨gb480, _, none⟩) NB460_480.out _).trans (hHeld.2.1)))), ((cell_far (p := ⟨gb480, _, none⟩) (by first | exact Nat.ne_of_lt (Nat.lt_of_lt_of_le (by have := World.block_lt_of_cell? _ _ hw471_0; first | rwa [add_block] at this | exact this) GW480.out) | (rw [add_block]; exact Nat.ne_of_lt (Nat.lt_of_lt_of_le (by have := World.block_lt_of_cell? _ _ hw471_0; first | rwa [add_block] at this | exact this) GW480.out)) | (show (Addr.add _ _).block ≠ _; rw [add_block]; exact Nat.ne_of_lt (Nat.lt_of_lt_of_le (by have := World.block_lt_of_cell? _ _ hw471_0; first | rwa [add_block] at this | exact this) GW480.out)) | (dsimp only; exact Nat.ne_of_lt (Nat.lt_of_lt_of_le (by have := World.block_lt_of_cell? _ _ hw471_0; first | rwa [add_block] at this | exact this) GW480.out))) _).trans (((cell_far (p := ⟨gb480, _, none⟩) (by first | exact Nat.ne_of_lt (Nat.lt_of_lt_of_le (by have := World.block_lt_of_cell? _ _ hw471_0; first | rwa [add_block] at this | exact this) GW480.out) | (rw [add_block]; exact Nat.ne_of_lt (Nat.lt_of_lt_of_le (by have := World.block_lt_of_cell? _ _ hw471_0; first | rwa [add_block] at this | exact this) GW480.out)) | (show (Addr.add _ _).block ≠ _; rw [add_block]; exact Nat.ne_of_lt (Nat.lt_of_lt_of_le (by have := World.block_lt_of_cell? _ _ hw471_0; first | rwa [add_block] at this | exact this) GW480.out)) | (dsimp only; exact Nat.ne_of_lt (Nat.lt_of_lt_of_le (by have := World.block_lt_of_cell? _ _ hw471_0; first | rwa [add_block] at this | exact this) GW480.out))) _).trans (hHeld.2.2.1)))), ((cell_far (p := ⟨gb480, _, none⟩) (by first | exact Nat.ne_of_lt (Nat.lt_of_lt_of_le (by have := World.block_lt_of_cell? _ _ hw471_1; first | rwa [add_block] at this | exact this) GW480.out) | (rw [add_block]; exact Nat.ne_of_lt (Nat.lt_of_lt_of_le (by have := World.block_lt_of_cell? _ _ hw471_1; first | rwa [add_block] at this | exact this) GW480.out)) | (show (Addr.add _ _).block ≠ _; rw [add_block]; exact Nat.ne_of_lt (Nat.lt_of_lt_of_le (by have := World.block_lt_of_cell? _ _ hw471_1; first | rwa [add_block] at this | exact this) GW480.out)) | (dsimp only; exact Nat.ne_of_lt (Nat.lt_of_lt_of_le (by have := World.block_lt_of_cell? _ _ hw471_1; first | rwa [add_block] at this | exact this) GW480.out))) _).trans (((cell_far (p := ⟨gb480, _, none⟩) (by first | exact Nat.ne_of_lt (Nat.lt_of_lt_of_le (by have := World.block_lt_of_cell? _ _ hw471_1; first | rwa [add_block] at this | exact this) GW480.out) | (rw [add_block]; exact Nat.ne_of_lt (Nat.lt_of_lt_of_le (by have := World.block_lt_of_cell? _ _ hw471_1; first | rwa [add_block] at this | exact this) GW480.out)) | (show (Addr.add _ _).block ≠ _; rw [add_block]; exact Nat.ne_of_lt (Nat.lt_of_lt_of_le (by have := World.block_lt_of_cell? _ _ hw471_1; first | rwa [add_block] at this | exact this) GW480.out)) | (dsimp only; exact Nat.ne_of_lt (Nat.lt_of_lt_of_le (by have := World.block_lt_of_cell? _ _ hw471_1; first | rwa [add_block] at this | exact this) GW480.out))) _).trans (hHeld.2.2.2.1)))), ((cell_far (p := ⟨gb480, _, none⟩) (by first | exact Nat.ne_of_lt (Nat.lt_of_lt_of_le (by have := World.block_lt_of_cell? _ _ hw471_2; first | rwa [add_block] at this | exact this) GW480.out) | (rw [add_block]; exact Nat.ne_of_lt (Nat.lt_of_lt_of_le (by have := World.block_lt_of_cell? _ _ hw471_2; first | rwa [add_block] at this | exact this) GW480.out)) | (show (Addr.add _ _).block ≠ _; rw [add_block]; exact Nat.ne_of_lt (Nat.lt_of_lt_of_le (by have := World.block_lt_of_cell? _ _ hw471_2; first | rwa [add_block] at this | exact this) GW480.out)) | (dsimp only; exact Nat.ne_of_lt (Nat.lt_of_lt_of_le (by have := World.block_lt_of_cell? _ _ hw471_2; first | rwa [add_block] at this | exact this) GW480.out))) _).trans (((cell_far (p := ⟨gb480, _, none⟩) (by first | exact Nat.ne_of_lt (Nat.lt_of_lt_of_le (by have := World.block_lt_of_cell? _ _ hw471_2; first | rwa [add_block] at this | exact this) GW480.out) | (rw [add_block]; exact Nat.ne_of_lt (Nat.lt_of_lt_of_le (by have := World.block_lt_of_cell? _ _ hw471_2; first | rwa [add_block] at this | exact this) GW480.out)) | (show (Addr.add _ _).block ≠ _; rw [add_block]; exact Nat.ne_of_lt (Nat.lt_of_lt_of_le (by have := World.block_lt_of_cell? _ _ hw471_2; first | rwa [add_block] at this | exact this) GW480.out)) | (dsimp only; exact Nat.ne_of_lt (Nat.lt_of_lt_of_le (by have := World.block_lt_of_cell? _ _ hw471_2; first | rwa [add_block] at this | exact this) GW480.out))) _).trans (hHeld.2.2.2.2.1)))), ((cell_far (p := ⟨gb480, _, none⟩) (by first | exact Nat.ne_of_lt (Nat.lt_of_lt_of_le (by have := World.block_lt_of_cell? _ _ hw472_0; first | rwa [add_block] at this | exact this) GW480.out) | (rw [add_block]; exact Nat.ne_of_lt (Nat.lt_of_lt_of_le (by have := World.block_lt_of_cell? _ _ hw472_0; first | rwa [add_block] at this | exact this) GW480.out)) | (show (Addr.add _ _).block ≠ _; rw [add_block]; exact Nat.ne_of_lt (Nat.lt_of_lt_of_le (by have := World.block_lt_of_cell? _ _ hw472_0; first | rwa [add_block] at this | exact this) GW480.out)) | (dsimp only; exact Nat.ne_of_lt (Nat.lt_of_lt_of_le (by have := World.block_lt_of_cell? _ _ hw472_0; first | rwa [add_block] at this | exact this) GW480.out))) _).trans (((cell_far (p := ⟨gb480, _, none⟩) (by first | exact Nat.ne_of_lt (Nat.lt_of_lt_of_le (by have := World.block_lt_of_cell? _ _ hw472_0; first | rwa [add_block] at this | exact this) GW480.out) | (rw [add_block]; exact Nat.ne_of_lt (Nat.lt_of_lt_of_le (by have := World.block_lt_of_cell? _ _ hw472_0; first | rwa [add_block] at this | exact this) GW480.out)) | (show (Addr.add _ _).block ≠ _; rw [add_block]; exact Nat.ne_of_lt (Nat.lt_of_lt_of_le (by have := World.block_lt_of_cell? _ _ hw472_0; first | rwa [add_block] at this | exact this) GW480.out)) | (dsimp only; exact Nat.ne_of_lt (Nat.lt_of_lt_of_le (by have := World.block_lt_of_cell? _ _ hw472_0; first | rwa [add_block] at this | exact this) GW480.out))) _).trans (hHeld.2.2.2.2.2.1)))), ((cell_far (p := ⟨gb480, _, none⟩) (by first | exact Nat.ne_of_lt (Nat.lt_of_lt_of_le (by have := World.block_lt_of_cell? _ _ hw472_1; first | rwa [add_block] at this | exact this) GW480.out) | (rw [add_block]; exact Nat.ne_of_lt (Nat.lt_of_lt_of_le (by have := World.block_lt_of_cell? _ _ hw472_1; first | rwa [add_block] at this | exact this) GW480.out)) | (show (Addr.add _ _).block ≠ _; rw [add_block]; exact Nat.ne_of_lt (Nat.lt_of_lt_of_le (by have := World.block_lt_of_cell? _ _ hw472_1; first | rwa [add_block] at this | exact this) GW480.out)) | (dsimp only; exact Nat.ne_of_lt (Nat.lt_of_lt_of_le (by have := World.block_lt_of_cell? _ _ hw472_1; first | rwa [add_block] at this | exact this) GW480.out))) _).trans (((cell_far (p := ⟨gb480, _, none⟩) (by first | exact Nat.ne_of_lt (Nat.lt_of_lt_of_le (by have := World.block_lt_of_cell? _ _ hw472_1; first | rwa [add_block] at this | exact this) GW480.out) | (rw [add_block]; exact Nat.ne_of_lt (Nat.lt_of_lt_of_le (by have := World.block_lt_of_cell? _ _ hw472_1; first | rwa [add_block] at this | exact this) GW480.out)) | (show (Addr.add _ _).block ≠ _; rw [add_block]; exact Nat.ne_of_lt (Nat.lt_of_lt_of_le (by have := World.block_lt_of_cell? _ _ hw472_1; first | rwa [add_block] at this | exact this) GW480.out)) | (dsimp only; exact Nat.ne_of_lt (Nat.lt_of_lt_of_le (by have := World.block_lt_of_cell? _ _ hw472_1; first | rwa [add_block] at this | exact this) GW480.out))) _).trans (hHeld.2.2.2.2.2.2.1)))), ((cell_far (p := ⟨gb480, _, none⟩) (by first | exact Nat.ne_of_lt (Nat.lt_of_lt_of_le (by have := World.block_lt_of_cell? _ _ hw472_2; first | rwa [add_block] at this | exact this) GW480.out) | (rw [add_block]; exact Nat.ne_of_lt (Nat.lt_of_lt_of_le (by have := World.block_lt_of_cell? _ _ hw472_2; first | rwa [add_block] at this | exact this) GW480.out)) | (show (Addr.add _ _).block ≠ _; rw [add_block]; exact Nat.ne_of_lt (Nat.lt_of_lt_of_le (by have := World.block_lt_of_cell? _ _ hw472_2; first | rwa [add_block] at this | exact this) GW480.out)) | (dsimp only; exact Nat.ne_of_lt (Nat.lt_of_lt_of_le (by have := World.block_lt_of_cell? _ _ hw472_2; first | rwa [add_block] at this | exact this) GW480.out))) _).trans (((cell_far (p := ⟨gb480, _, none⟩) (by first | exact Nat.ne_of_lt (Nat.lt_of_lt_of_le (by have := World.block_lt_of_cell? _ _ hw472_2; first | rwa [add_block] at this | exact this) GW480.out) | (rw [add_block]; exact Nat.ne_of_lt (Nat.lt_of_lt_of_le (by have := World.block_lt_of_cell? _ _ hw472_2; first | rwa [add_block] at this | exact this) GW480.out)) | (show (Addr.add _ _).block ≠ _; rw [add_block]; exact Nat.ne_of_lt (Nat.lt_of_lt_of_le (by have := World.block_lt_of_cell? _ _ hw472_2; first | rwa [add_block] at this | exact this) GW480.out)) | (dsimp only; exact Nat.ne_of_lt (Nat.lt_of_lt_of_le (by have := World.block_lt_of_cell? _ _ hw472_2; first | rwa [add_block] at this | exact this) GW480.out))) _).trans (hHeld.2.2.2.2.2.2.2))))⟩ (fun hHeld => ?_)
           clear hK K
           refine pure_ (i := 17) (N := some 14) (v := ?_) (a' := ?_) #[true, true, true, true, true, true, true, true, true, true, true, true, true, true, true, true, true, true] rfl rfl (any_of HT_.out (by kernel_rfl)) (fun _ _ _ h => h) (Or.inl ⟨by rfl, ?_⟩) ?_ ?_
           rotate_left
           ·intro w'
            go_simp
            with_reducible rfl
           rotate_left
           ·simp only [Act.put, List.setIfInBounds_toArray, List.set_cons_zero, List.set_cons_succ, i64_w, i32_w]
            rfl
           refine done_ (done_of HT_.out (by kernel_rfl)) ?_
           have hnb68 := NB480_458.out
           have hnc68 := NB458_480.out
           have hnb69 := NB480_459.out
           have hnc69 := NB459_480.out
           have hnb70 := NB480_460.out
           have hnc70 := NB460_480.out
           have hcz71_0 : w63.cell? ⟨gb480, 0, none⟩ = some (.slice none 0 0) := (xC_ BK480.out 0).trans rfl
           have hcz71_1 : w63.cell? ⟨gb480, 1, none⟩ = some (.slice none 0 0) := (xC_ BK480.out 1).trans rfl
           have hfz71_0 := xF_ BK480.out 0
           have hfz71_1 := xF_ BK480.out 1
           have hnb72 := NB460_458.out
           have hnc72 := NB458_460.out
           have hnb73 := NB460_459.out
           have hnc73 := NB459_460.out
           have hcz74_0 : w63.cell? ⟨gb460, 0, none⟩ = some (.slice Ao58 x461000_1.length co58) := (xC_ BK460.out 0).trans rfl
           have hcz74_1 : w63.cell? ⟨gb460, 1, none⟩ = some (.slice Ao59 x461001_1.length co59) := (xC_ BK460.out 1).trans rfl
           have hfz74_0 := xF_ BK460.out 0
           have hfz74_1 := xF_ BK460.out 1
           try go_wp2
           go_roundg kj15
           case measure => have := HK1.out; have := HJ15.out; omega
           case rel => exact ⟨(wrap64 (x9_1 + 1)), (t473), (t476), (.slice Ao64 t473.length co64), (.slice Ao66 t476.length co66), (by first | rfl | (simp; done) | (simp [*]; done)), H', ⟨by have := HK1.out; have := HJ15.out; omega⟩, ⟨by (with_reducible repeat (first | apply Kd.V_alloc | apply Kd.V_drewN | apply Kd.V_drew)); exact Kd.V_mono (Kd.V_far (p := ⟨gb460, 1, none⟩) (Kd.V_far (p := ⟨gb460, 0, none⟩) (Kd.V_far (p := ⟨gb480, 1, none⟩) (Kd.V_far (p := ⟨gb480, 0, none⟩) (Kd.V_mono (Kd.V_mono HO_459000.out (fun k_ hk => (⟨hk, hk.2.2.2.2⟩ : _ ∧ k_ ≠ gb480))) (fun k_ hk => (⟨hk, hk.1.2.2.2.1⟩ : _ ∧ k_ ≠ gb460))) (fun _ hk => hk.1.2) (.slice Ao64 t473.length co64)) (fun _ hk => hk.1.2) (.slice Ao66 t476.length co66)) (fun _ hk => hk.2) (.slice Ao64 t473.length co64)) (fun _ hk => hk.2) (.slice Ao66 t476.length co66)) (fun _ hk => ⟨hk.1.1.1, ⟨hk.1.1.2.1, ⟨hk.1.1.2.2.1, hk.1.1.2.2.2.1⟩⟩⟩)⟩, ⟨by (with_reducible repeat (first | apply Kd.V_alloc | apply Kd.V_drewN | apply Kd.V_drew)); exact Kd.V_mono (Kd.V_far (p := ⟨gb460, 1, none⟩) (Kd.V_far (p := ⟨gb460, 0, none⟩) (Kd.V_far (p := ⟨gb480, 1, none⟩) (Kd.V_far (p := ⟨gb480, 0, none⟩) (Kd.V_mono (Kd.V_mono HO_459001.out (fun k_ hk => (⟨hk, hk.2.2.2.2⟩ : _ ∧ k_ ≠ gb480))) (fun k_ hk => (⟨hk, hk.1.2.2.2.1⟩ : _ ∧ k_ ≠ gb460))) (fun _ hk => hk.1.2) (.slice Ao64 t473.length co64)) (fun _ hk => hk.1.2) (.slice Ao66 t476.length co66)) (fun _ hk => hk.2) (.slice Ao64 t473.length co64)) (fun _ hk => hk.2) (.slice Ao66 t476.length co66)) (fun _ hk => ⟨hk.1.1.1, ⟨hk.1.1.2.1, ⟨hk.1.1.2.2.1, hk.1.1.2.2.2.1⟩⟩⟩)⟩, ⟨by (with_reducible repeat (first | apply Kd.V_alloc | apply Kd.V_drewN | apply Kd.V_drew)); exact Kd.V_mono (Kd.V_far (p := ⟨gb460, 1, none⟩) (Kd.V_far (p := ⟨gb460, 0, none⟩) (Kd.V_far (p := ⟨gb480, 1, none⟩) (Kd.V_far (p := ⟨gb480, 0, none⟩) (Kd.V_mono (Kd.V_mono HO475.out (fun k_ hk => (⟨hk, hk.2.2.2.2⟩ : _ ∧ k_ ≠ gb480))) (fun k_ hk => (⟨hk, hk.1.2.2.2.1⟩ : _ ∧ k_ ≠ gb460))) (fun _ hk => hk.1.2) (.slice Ao64 t473.length co64)) (fun _ hk => hk.1.2) (.slice Ao66 t476.length co66)) (fun _ hk => hk.2) (.slice Ao64 t473.length co64)) (fun _ hk => hk.2) (.slice Ao66 t476.length co66)) (fun _ hk => ⟨hk.1.1.1, ⟨hk.1.1.2.1, ⟨hk.1.1.2.2.1, hk.1.1.2.2.2.1⟩⟩⟩)⟩, ⟨by (with_reducible repeat (first | apply Kd.V_alloc | apply Kd.V_drewN | apply Kd.V_drew)); exact Kd.V_mono (Kd.V_far (p := ⟨gb460, 1, none⟩) (Kd.V_far (p := ⟨gb460, 0, none⟩) (Kd.V_far (p := ⟨gb480, 1, none⟩) (Kd.V_far (p := ⟨gb480, 0, none⟩) (Kd.V_mono (Kd.V_mono HO478.out (fun k_ hk => (⟨hk, hk.2.2.2.2⟩ : _ ∧ k_ ≠ gb480))) (fun k_ hk => (⟨hk, hk.1.2.2.2.1⟩ : _ ∧ k_ ≠ gb460))) (fun _ hk => hk.1.2) (.slice Ao64 t473.length co64)) (fun _ hk => hk.1.2) (.slice Ao66 t476.length co66)) (fun _ hk => hk.2) (.slice Ao64 t473.length co64)) (fun _ hk => hk.2) (.slice Ao66 t476.length co66)) (fun _ hk => ⟨hk.1.1.1, ⟨hk.1.1.2.1, ⟨hk.1.1.2.2.1, hk.1.1.2.2.2.1⟩⟩⟩)⟩, ⟨by (with_reducible repeat (first | apply xN_ | apply xD_ | apply xA_)); refine xR_ ?_ NB458_460.out _; refine xR_ ?_ NB458_460.out _; refine xR_ ?_ NB458_480.out _; refine xR_ ?_ NB458_480.out _; (with_reducible repeat (first | apply xN_ | apply xD_ | apply xA_)); exact BK458.out⟩, ⟨by (with_reducible repeat (first | apply xN_ | apply xD_ | apply xA_)); refine xR_ ?_ NB459_460.out _; refine xR_ ?_ NB459_460.out _; refine xR_ ?_ NB459_480.out _; refine xR_ ?_ NB459_480.out _; (with_reducible repeat (first | apply xN_ | apply xD_ | apply xA_)); exact BK459.out⟩, ⟨by (with_reducible repeat (first | apply xN_ | apply xD_ | apply xA_)); refine blk_put (cs := #[.slice Ao64 t473.length co64, .slice Ao59 x461001_1.length co59]) ?_ 1 _ rfl; refine blk_put (cs := #[.slice Ao58 x461000_1.length co58, .slice Ao59 x461001_1.length co59]) ?_ 0 _ rfl; refine xR_ ?_ NB460_480.out _; refine xR_ ?_ NB460_480.out _; (with_reducible repeat (first | apply xN_ | apply xD_ | apply xA_)); exact BK460.out⟩, ⟨by repeat (first | (with_reducible first | exact HB.out | apply yA_ | apply yN_ | apply yD_ | refine yS_ ?_ GE458.out | refine yS_ ?_ GE459.out | refine yS_ ?_ GE460.out | refine yS_ ?_ GE480.out) | exact HB.out)⟩⟩
          ·rw [if_neg c57] at H
           have c57b0 : (t479 == 0) = false := beq_eq_false_iff_ne.mpr c57
           have c57b1 : (t479 != 0) = true := bne_iff_ne.mpr c57
           simp only [Option.some.injEq, Prod.mk.injEq] at H
           obtain ⟨rfl, rfl, rfl⟩ := H
           have p462 : 0 ≤ (x9_1 : Int) := of_decide_eq_true (by first | (with_reducible assumption) | assumption)
           have q462 : x9_1 < (l1.length : Int) := of_decide_eq_true (by first | (with_reducible assumption) | assumption)
           obtain ⟨ad462, e462, hx462_0, hx462_1, hx462_2⟩ := at_T49 HR1.out x9_1 p462 q462
           (try rw [← Nbq21.out] at hx462_0)
           cases e462
           replace hx462_0 := (HB.out.cell (World.block_lt_of_cell? w _ hx462_0)).trans hx462_0
           replace hx462_1 := (HB.out.cell (World.block_lt_of_cell? w _ hx462_1)).trans hx462_1
           replace hx462_2 := (HB.out.cell (World.block_lt_of_cell? w _ hx462_2)).trans hx462_2
           replace p462 := eq_true p462
           replace q462 := eq_true q462
           obtain ⟨Ao75, co75, eo75⟩ := Kd.V_slice HO_461000.out
           subst eo75
           obtain ⟨Ao76, co76, eo76⟩ := Kd.V_slice HO_461001.out
           subst eo76
           try go_wp2
           replace HO_459000 := Aside0.mk (Kd.V_drew HO_459000.out)
           replace HO_459001 := Aside0.mk (Kd.V_drew HO_459001.out)
           replace HO_461000 := Aside0.mk (Kd.V_drew HO_461000.out)
           replace HO_461001 := Aside0.mk (Kd.V_drew HO_461001.out)
           replace BK458 := Aside0.mk (xD_ BK458.out)
           replace BK459 := Aside0.mk (xD_ BK459.out)
           replace BK460 := Aside0.mk (xD_ BK460.out)
           replace HB := Aside0.mk (yD_ HB.out)
           have p471 : 0 ≤ (x9_1 : Int) := of_decide_eq_true (by first | (with_reducible assumption) | assumption)
           have q471 : x9_1 < (l1.length : Int) := of_decide_eq_true (by first | (with_reducible assumption) | assumption)
           obtain ⟨ad471, e471, hx471_0, hx471_1, hx471_2⟩ := at_T49 HR1.out x9_1 p471 q471
           have hw471_2 := hx471_2
           have hw471_1 := hx471_1
           (try rw [← Nbq21.out] at hx471_0)
           have hw471_0 := hx471_0
           obtain rfl : ad462 = ad471 := (by injection e471)
           replace hx471_0 := (HB.out.cell (World.block_lt_of_cell? w _ hx471_0)).trans hx471_0
           replace hx471_1 := (HB.out.cell (World.block_lt_of_cell? w _ hx471_1)).trans hx471_1
           replace hx471_2 := (HB.out.cell (World.block_lt_of_cell? w _ hx471_2)).trans hx471_2
           replace p471 := eq_true p471
           replace q471 := eq_true q471
           have p472 : 0 ≤ (x9_1 : Int) := of_decide_eq_true (by first | (with_reducible assumption) | assumption)
           have q472 : x9_1 < (l1.length : Int) := of_decide_eq_true (by first | (with_reducible assumption) | assumption)
           obtain ⟨ad472, e472, hx472_0, hx472_1, hx472_2⟩ := at_T49 HR1.out x9_1 p472 q472
           have hw472_2 := hx472_2
           have hw472_1 := hx472_1
           (try rw [← Nbq21.out] at hx472_0)
           have hw472_0 := hx472_0
           obtain rfl : ad462 = ad472 := (by injection e472)
           replace hx472_0 := (HB.out.cell (World.block_lt_of_cell? w _ hx472_0)).trans hx472_0
           replace hx472_1 := (HB.out.cell (World.block_lt_of_cell? w _ hx472_1)).trans hx472_1
           replace hx472_2 := (HB.out.cell (World.block_lt_of_cell? w _ hx472_2)).trans hx472_2
           replace p472 := eq_true p472
           replace q472 := eq_true q472
           refine start_ (n := 18) (S := fun w' => w'.cell? ⟨gb460, 0, none⟩ = some (.slice Ao75 x461000_1.length co75) ∧ w'.cell? ⟨gb460, 1, none⟩ = some (.slice Ao76 x461001_1.length co76) ∧ w'.cell? (ad462.add ((x9_1).toNat * 3)) = some (.bool (false)) ∧ w'.cell? ⟨(ad462.add ((x9_1).toNat * 3)).block, (ad462.add ((x9_1).toNat * 3)).off + 1, none⟩ = some (.int .i64 ((rd_T49 l1 x9_1).f1)) ∧ w'.cell? ⟨(ad462.add ((x9_1).toNat * 3)).block, (ad462.add ((x9_1).toNat * 3)).off + 2, none⟩ = some (.string ((rd_T49 l1 x9_1).f2)) ∧ w'.cell? (ad462.add ((x9_1).toNat * 3)) = some (.bool (false)) ∧ w'.cell? ⟨(ad462.add ((x9_1).toNat * 3)).block, (ad462.add ((x9_1).toNat * 3)).off + 1, none⟩ = some (.int .i64 ((rd_T49 l1 x9_1).f1)) ∧ w'.cell? ⟨(ad462.add ((x9_1).toNat * 3)).block, (ad462.add ((x9_1).toNat * 3)).off + 2, none⟩ = some (.string ((rd_T49 l1 x9_1).f2))) (ds := []) #[false, false, false, false, false, false, false, false, false, false, false, false, false, false, false, false, false, false] (by kernel_rfl) rfl rfl ⟨(xC_ BK460.out 0).trans rfl, (xC_ BK460.out 1).trans rfl, ((HB.out.cell (World.block_lt_of_cell? w _ hw471_0)).trans hw471_0), ((HB.out.cell (World.block_lt_of_cell? w _ hw471_1)).trans hw471_1), ((HB.out.cell (World.block_lt_of_cell? w _ hw471_2)).trans hw471_2), ((HB.out.cell (World.block_lt_of_cell? w _ hw472_0)).trans hw472_0), ((HB.out.cell (World.block_lt_of_cell? w _ hw472_1)).trans hw472_1), ((HB.out.cell (World.block_lt_of_cell? w _ hw472_2)).trans hw472_2)⟩ (fun hHeld => ?_); refine with_tabW armadaref01_Run.tab11 armadaref01_Run.bits11 (fun HT_ HW_ => ?_)
           generalize wc.drew = w77 at HO_459000 HO_459001 HO_461000 HO_461001 BK458 BK459 BK460 HB hx471_0 hx471_1 hx471_2 hx472_0 hx472_1 hx472_2 hHeld ⊢
           refine pure_ (i := 1) (N := some 44) (v := ?_) (a' := ?_) #[false, true, false, false, false, false, false, false, false, false, false, false, false, false, false, false, false, false] rfl rfl (any_of HT_.out (by kernel_rfl)) (fun _ _ _ h => h) (Or.inl ⟨by rfl, ?_⟩) ?_ ?_
           rotate_left
           ·intro w'
            go_simp
            with_reducible rfl
           rotate_left
           ·simp only [Act.put, List.setIfInBounds_toArray, List.set_cons_zero, List.set_cons_succ, i64_w, i32_w]
            rfl
           refine pure_ (i := 2) (N := some 45) (v := ?_) (a' := ?_) #[false, true, true, false, false, false, false, false, false, false, false, false, false, false, false, false, false, false] rfl rfl (any_of HT_.out (by kernel_rfl)) (fun _ _ _ h => h) (Or.inl ⟨by rfl, ?_⟩) ?_ ?_
           rotate_left
           ·intro w'
            go_simp
            with_reducible rfl
           rotate_left
           ·simp only [Act.put, List.setIfInBounds_toArray, List.set_cons_zero, List.set_cons_succ, i64_w, i32_w]
            rfl
           refine pure_ (i := 3) (N := some 46) (v := ?_) (a' := ?_) #[false, true, true, true, false, false, false, false, false, false, false, false, false, false, false, false, false, false] rfl rfl (any_of HT_.out (by kernel_rfl)) (fun _ _ _ h => h) (Or.inl ⟨by rfl, ?_⟩) ?_ ?_
           rotate_left
           ·intro w'
            go_simp
            with_reducible rfl
           rotate_left
           ·simp only [Act.put, List.setIfInBounds_toArray, List.set_cons_zero, List.set_cons_succ, i64_w, i32_w]
            rfl
           refine pure_ (i := 4) (N := some 47) (v := ?_) (a' := ?_) #[false, true, true, true, true, false, false, false, false, false, false, false, false, false, false, false, false, false] rfl rfl (any_of HT_.out (by kernel_rfl)) (fun _ _ _ h => h) (Or.inl ⟨by rfl, ?_⟩) ?_ ?_
           rotate_left
           ·intro w'
            go_simp
            with_reducible rfl
           rotate_left
           ·simp only [Act.put, List.setIfInBounds_toArray, List.set_cons_zero, List.set_cons_succ, i64_w, i32_w]
            rfl
           refine pure_ (i := 6) (N := some 49) (v := ?_) (a' := ?_) #[false, true, true, true, true, false, true, false, false, false, false, false, false, false, false, false, false, false] rfl rfl (any_of HT_.out (by kernel_rfl)) (fun _ _ _ h => h) (Or.inl ⟨by rfl, ?_⟩) ?_ ?_
           rotate_left
           ·intro w'
            go_simp
            with_reducible rfl
           rotate_left
           ·simp only [Act.put, List.setIfInBounds_toArray, List.set_cons_zero, List.set_cons_succ, i64_w, i32_w]
            rfl
           refine pure_ (i := 7) (N := some 50) (v := ?_) (a' := ?_) #[false, true, true, true, true, false, true, true, false, false, false, false, false, false, false, false, false, false] rfl rfl (any_of HT_.out (by kernel_rfl)) (fun _ _ _ h => h) (Or.inl ⟨by rfl, ?_⟩) ?_ ?_
           rotate_left
           ·intro w'
            go_simp
            with_reducible rfl
           rotate_left
           ·simp only [Act.put, List.setIfInBounds_toArray, List.set_cons_zero, List.set_cons_succ, i64_w, i32_w]
            rfl
           refine pure_ (i := 8) (N := some 51) (v := ?_) (a' := ?_) #[false, true, true, true, true, false, true, true, true, false, false, false, false, false, false, false, false, false] rfl rfl (any_of HT_.out (by kernel_rfl)) (fun _ _ _ h => h) (Or.inl ⟨by rfl, ?_⟩) ?_ ?_
           rotate_left
           ·intro w'
            go_simp
            with_reducible rfl
           rotate_left
           ·simp only [Act.put, List.setIfInBounds_toArray, List.set_cons_zero, List.set_cons_succ, i64_w, i32_w]
            rfl
           refine pure_ (i := 9) (N := some 52) (v := ?_) (a' := ?_) #[false, true, true, true, true, false, true, true, true, true, false, false, false, false, false, false, false, false] rfl rfl (any_of HT_.out (by kernel_rfl)) (fun _ _ _ h => h) (Or.inl ⟨by rfl, ?_⟩) ?_ ?_
           rotate_left
           ·intro w'
            go_simp
            with_reducible rfl
           rotate_left
           ·simp only [Act.put, List.setIfInBounds_toArray, List.set_cons_zero, List.set_cons_succ, i64_w, i32_w]
            rfl
           refine take_ (i := 0) (N := some 43) (v := ?_) (a' := ?_) #[true, true, true, true, true, false, true, true, true, true, false, false, false, false, false, false, false, false] rfl rfl (take_ofW HT_.out HW_.out (by kernel_rfl)) (fun _ _ _ h => h) (Or.inl ⟨by rfl, ?_⟩) hHeld ?_ ?_
           rotate_left
           ·rintro w' ⟨s0, s1, s2, s3, s4, s5, s6, s7⟩
            go_simp
            with_reducible rfl
           rotate_left
           ·simp only [Act.put, List.setIfInBounds_toArray, List.set_cons_zero, List.set_cons_succ, i64_w, i32_w]
            rfl
           refine take_ (i := 5) (N := some 48) (v := ?_) (a' := ?_) #[true, true, true, true, true, true, true, true, true, true, false, false, false, false, false, false, false, false] rfl rfl (take_ofW HT_.out HW_.out (by kernel_rfl)) (fun _ _ _ h => h) (Or.inl ⟨by rfl, ?_⟩) hHeld ?_ ?_
           rotate_left
           ·rintro w' ⟨s0, s1, s2, s3, s4, s5, s6, s7⟩
            go_simp
            with_reducible rfl
           rotate_left
           ·simp only [Act.put, List.setIfInBounds_toArray, List.set_cons_zero, List.set_cons_succ, i64_w, i32_w]
            rfl
           refine take_ (i := 10) (N := some 53) (v := ?_) (a' := ?_) #[true, true, true, true, true, true, true, true, true, true, true, false, false, false, false, false, false, false] rfl rfl (take_ofW HT_.out HW_.out (by kernel_rfl)) (fun _ _ _ h => h) (Or.inl ⟨by rfl, ?_⟩) hHeld ?_ ?_
           rotate_left
           ·rintro w' ⟨s0, s1, s2, s3, s4, s5, s6, s7⟩
            go_simp
            with_reducible rfl
           rotate_left
           ·simp only [Act.put, List.setIfInBounds_toArray, List.set_cons_zero, List.set_cons_succ, i64_w, i32_w]
            rfl
           refine join_ (σ := Value × Value × Nat) 2 #[true, true, true, true, true, true, true, true, true, true, true, true, true, true, true, true, false, false] (fun s_ => [(54, .tuple #[.agg #[s_.1, s_.2.1], .int .i64 t479]), (13, .pointer (some ⟨s_.2.2, 0, none⟩)), (42, .tuple #[.agg #[s_.1, s_.2.1], .int .i64 t479]), (55, .agg #[s_.1, s_.2.1]), (56, .int .i64 t479)]) (fun s_ w' => (w'.cell? ⟨gb460, 0, none⟩ = some (.slice Ao75 x461000_1.length co75) ∧ w'.cell? ⟨gb460, 1, none⟩ = some (.slice Ao76 x461001_1.length co76) ∧ w'.cell? (ad462.add ((x9_1).toNat * 3)) = some (.bool (false)) ∧ w'.cell? ⟨(ad462.add ((x9_1).toNat * 3)).block, (ad462.add ((x9_1).toNat * 3)).off + 1, none⟩ = some (.int .i64 ((rd_T49 l1 x9_1).f1)) ∧ w'.cell? ⟨(ad462.add ((x9_1).toNat * 3)).block, (ad462.add ((x9_1).toNat * 3)).off + 2, none⟩ = some (.string ((rd_T49 l1 x9_1).f2)) ∧ w'.cell? (ad462.add ((x9_1).toNat * 3)) = some (.bool (false)) ∧ w'.cell? ⟨(ad462.add ((x9_1).toNat * 3)).block, (ad462.add ((x9_1).toNat * 3)).off + 1, none⟩ = some (.int .i64 ((rd_T49 l1 x9_1).f1)) ∧ w'.cell? ⟨(ad462.add ((x9_1).toNat * 3)).block, (ad462.add ((x9_1).toNat * 3)).off + 2, none⟩ = some (.string ((rd_T49 l1 x9_1).f2))) ∧ (Kd.V Kd.string 9 w' w.heap.size (fun k_ => ((P0_0_ k_ ∨ P0_1_ k_) ∨ w.heap.size ≤ k_) ∧ k_ ≠ gb458 ∧ k_ ≠ gb459 ∧ k_ ≠ gb460 ∧ k_ ≠ s_.2.2) s_.1 t473) ∧ (Kd.V k27 27 w' w.heap.size (fun k_ => ((P0_0_ k_ ∨ P0_1_ k_) ∨ w.heap.size ≤ k_) ∧ k_ ≠ gb458 ∧ k_ ≠ gb459 ∧ k_ ≠ gb460 ∧ k_ ≠ s_.2.2) s_.2.1 t476) ∧ (Kd.V Kd.string 9 w' w.heap.size (fun k_ => ((P0_0_ k_ ∨ P0_1_ k_) ∨ w.heap.size ≤ k_) ∧ k_ ≠ gb458 ∧ k_ ≠ gb459 ∧ k_ ≠ gb460 ∧ k_ ≠ s_.2.2) (.slice A0_0 l0_0.length c0_0) l0_0) ∧ (Kd.V k27 27 w' w.heap.size (fun k_ => ((P0_0_ k_ ∨ P0_1_ k_) ∨ w.heap.size ≤ k_) ∧ k_ ≠ gb458 ∧ k_ ≠ gb459 ∧ k_ ≠ gb460 ∧ k_ ≠ s_.2.2) (.slice A0_1 l0_1.length c0_1) l0_1) ∧ (Kd.V Kd.string 9 w' w.heap.size (fun k_ => ((P0_0_ k_ ∨ P0_1_ k_) ∨ w.heap.size ≤ k_) ∧ k_ ≠ gb458 ∧ k_ ≠ gb459 ∧ k_ ≠ gb460 ∧ k_ ≠ s_.2.2) (.slice Ao75 x461000_1.length co75) x461000_1) ∧ (Kd.V k27 27 w' w.heap.size (fun k_ => ((P0_0_ k_ ∨ P0_1_ k_) ∨ w.heap.size ≤ k_) ∧ k_ ≠ gb458 ∧ k_ ≠ gb459 ∧ k_ ≠ gb460 ∧ k_ ≠ s_.2.2) (.slice Ao76 x461001_1.length co76) x461001_1) ∧ (w'.heap[gb458]? = some (.cells #[.slice A0_0 l0_0.length c0_0, .slice A0_1 l0_1.length c0_1] 25 (0, 0))) ∧ (w'.heap[gb459]? = some (.cells #[.slice none 0 0, .slice none 0 0] 25 (0, 0))) ∧ (w'.heap[gb460]? = some (.cells #[.slice Ao75 x461000_1.length co75, .slice Ao76 x461001_1.length co76] 25 (0, 0))) ∧ (w'.heap[s_.2.2]? = some (.cells #[.slice none 0 0, .slice none 0 0] 25 (0, 0))) ∧ (w.heap.size ≤ s_.2.2) ∧ (w.heap.size ≤ s_.2.2) ∧ (gb458 ≠ s_.2.2) ∧ (s_.2.2 ≠ gb458) ∧ (gb459 ≠ s_.2.2) ∧ (s_.2.2 ≠ gb459) ∧ (gb460 ≠ s_.2.2) ∧ (s_.2.2 ≠ gb460) ∧ (Below w.heap.size w w')) ?_ ?_
           rotate_left
           ·intro hCont
            refine two_ (i := 11) (j := 15) (Ni := some 54) (Nj := some 13) #[true, true, true, true, true, true, true, true, true, true, true, true, false, false, false, false, false, false] #[true, true, true, true, true, true, true, true, true, true, true, false, false, false, false, true, false, false] rfl rfl rfl rfl (two_of HT_.out (by kernel_rfl)) (by decide) (by decide) (fun K hK => ?_) (fun K hK => ?_)
            ·skip
             refine goes_ Try.func12 (by kernel_rfl) rfl #[.agg #[.slice Ao75 x461000_1.length co75, .slice Ao76 x461001_1.length co76], .int .i64 ((rd_T49 l1 x9_1).f1), .string ((rd_T49 l1 x9_1).f2)] (by rfl) rfl rfl (by (try simp only [List.map_toArray, List.map_cons, List.map_nil]); first | done | rfl) ?_
             with_reducible refine (armadaref01_Put.calls kj15 (fun k_ => (((P0_0_ k_ ∨ P0_1_ k_) ∨ w.heap.size ≤ k_) ∧ (k_ ≠ gb458 ∧ (k_ ≠ gb459 ∧ k_ ≠ gb460)))) _ _ x461000_1 (fun k_ => (((P0_0_ k_ ∨ P0_1_ k_) ∨ w.heap.size ≤ k_) ∧ (k_ ≠ gb458 ∧ (k_ ≠ gb459 ∧ k_ ≠ gb460)))) _ _ x461001_1 ((rd_T49 l1 x9_1).f1) ((rd_T49 l1 x9_1).f2) t473 t476 t479 _ ?side1 ?side2 A56.out).mono ?_
             (case side1 => exact HO_461000.out)
             (case side2 => exact HO_461001.out)
             rintro e w78 ⟨v474, v477, rfl, ho0, ho1, hb⟩
             refine ⟨_, rfl, ?_⟩
             have hz_ := zq HB (by repeat (first | (with_reducible first | exact Below.refl _ _ | apply yA_ | apply yN_ | apply yD_) | exact Below.refl _ _)) hb
             replace hb := below_step hz_ hb
             replace HO_459000 := zV HO_459000 hb
             replace HO_459001 := zV HO_459001 hb
             replace HO_461000 := zV HO_461000 hb
             replace HO_461001 := zV HO_461001 hb
             have HO475 := Aside0.mk (Kd.V_lower (Kd.V_mono (ok' := fun k_ => ((P0_0_ k_ ∨ P0_1_ k_) ∨ w.heap.size ≤ k_) ∧ k_ ≠ gb458 ∧ k_ ≠ gb459 ∧ k_ ≠ gb460) ho0 (fun k_ hk_ => ⟨Or.elim hk_ (fun hs_ => Or.elim hs_ (fun hs_ => hs_.1) (fun hs_ => hs_.1)) (fun hn_ => (.inr (Nat.le_trans (zs HB hz_) hn_))), Or.elim hk_ (fun hs_ => Or.elim hs_ (fun hs_ => hs_.2.1) (fun hs_ => hs_.2.1)) (zf BK458 hz_ k_), Or.elim hk_ (fun hs_ => Or.elim hs_ (fun hs_ => hs_.2.2.1) (fun hs_ => hs_.2.2.1)) (zf BK459 hz_ k_), Or.elim hk_ (fun hs_ => Or.elim hs_ (fun hs_ => hs_.2.2.2) (fun hs_ => hs_.2.2.2)) (zf BK460 hz_ k_)⟩)) (zs HB hz_))
             have HO478 := Aside0.mk (Kd.V_lower (Kd.V_mono (ok' := fun k_ => ((P0_0_ k_ ∨ P0_1_ k_) ∨ w.heap.size ≤ k_) ∧ k_ ≠ gb458 ∧ k_ ≠ gb459 ∧ k_ ≠ gb460) ho1 (fun k_ hk_ => ⟨Or.elim hk_ (fun hs_ => Or.elim hs_ (fun hs_ => hs_.1) (fun hs_ => hs_.1)) (fun hn_ => (.inr (Nat.le_trans (zs HB hz_) hn_))), Or.elim hk_ (fun hs_ => Or.elim hs_ (fun hs_ => hs_.2.1) (fun hs_ => hs_.2.1)) (zf BK458 hz_ k_), Or.elim hk_ (fun hs_ => Or.elim hs_ (fun hs_ => hs_.2.2.1) (fun hs_ => hs_.2.2.1)) (zf BK459 hz_ k_), Or.elim hk_ (fun hs_ => Or.elim hs_ (fun hs_ => hs_.2.2.2) (fun hs_ => hs_.2.2.2)) (zf BK460 hz_ k_)⟩)) (zs HB hz_))
             replace BK458 := zB BK458 hb
             replace BK459 := zB BK459 hb
             replace BK460 := zB BK460 hb
             replace HB := zH HB hb
             clear hz_
             (try clear hb)
             (try clear hb2)
             (try clear hk)
             (try clear hi)
             (try clear ho0)
             (try clear ho1)
             refine hK.out _ _ ⟨(xC_ BK460.out 0).trans rfl, (xC_ BK460.out 1).trans rfl, ((HB.out.cell (World.block_lt_of_cell? w _ hw471_0)).trans hw471_0), ((HB.out.cell (World.block_lt_of_cell? w _ hw471_1)).trans hw471_1), ((HB.out.cell (World.block_lt_of_cell? w _ hw471_2)).trans hw471_2), ((HB.out.cell (World.block_lt_of_cell? w _ hw472_0)).trans hw472_0), ((HB.out.cell (World.block_lt_of_cell? w _ hw472_1)).trans hw472_1), ((HB.out.cell (World.block_lt_of_cell? w _ hw472_2)).trans hw472_2)⟩ (fun hHeld => ?_)
             clear hK K
             refine norm_ (a' := ?_) ?_ ?_
             rotate_left
             ·show Act.put _ (some 54) _ = _
              simp only [Act.put, List.setIfInBounds_toArray, List.set_cons_zero, List.set_cons_succ, i64_w, i32_w]
              rfl
             refine pure_ (i := 12) (N := some 42) (v := ?_) (a' := ?_) #[true, true, true, true, true, true, true, true, true, true, true, true, true, false, false, false, false, false] rfl rfl (any_of HT_.out (by kernel_rfl)) (fun _ _ _ h => h) (Or.inl ⟨by rfl, ?_⟩) ?_ ?_
             rotate_left
             ·intro w'
              go_simp
              with_reducible rfl
             rotate_left
             ·simp only [Act.put, List.setIfInBounds_toArray, List.set_cons_zero, List.set_cons_succ, i64_w, i32_w]
              rfl
             refine pure_ (i := 13) (N := some 55) (v := ?_) (a' := ?_) #[true, true, true, true, true, true, true, true, true, true, true, true, true, true, false, false, false, false] rfl rfl (any_of HT_.out (by kernel_rfl)) (fun _ _ _ h => h) (Or.inl ⟨by rfl, ?_⟩) ?_ ?_
             rotate_left
             ·intro w'
              go_simp
              with_reducible rfl
             rotate_left
             ·simp only [Act.put, List.setIfInBounds_toArray, List.set_cons_zero, List.set_cons_succ, i64_w, i32_w]
              rfl
             refine pure_ (i := 14) (N := some 56) (v := ?_) (a' := ?_) #[true, true, true, true, true, true, true, true, true, true, true, true, true, true, true, false, false, false] rfl rfl (any_of HT_.out (by kernel_rfl)) (fun _ _ _ h => h) (Or.inl ⟨by rfl, ?_⟩) ?_ ?_
             rotate_left
             ·intro w'
              go_simp
              with_reducible rfl
             rotate_left
             ·simp only [Act.put, List.setIfInBounds_toArray, List.set_cons_zero, List.set_cons_succ, i64_w, i32_w]
              rfl
             refine one_ (i := 15) (N := some 13) #[true, true, true, true, true, true, true, true, true, true, true, true, true, true, true, true, false, false] rfl rfl (one_of HT_.out (by kernel_rfl)) (by decide) (fun K hK => ?_)
             refine box_step ?hg (N := 13) ?hd (cs := #[.slice none 0 0, .slice none 0 0]) (t := 25) ?hr ?_; (case hd => rfl); (case hg => rfl); (case hr => first | (go_simp; done) | (go_simp; rfl))
             intro gb480 hg w79 hbox hb
             have hz_ := zq HB (by repeat (first | (with_reducible first | exact Below.refl _ _ | apply yA_ | apply yN_ | apply yD_) | exact Below.refl _ _)) hb
             replace hb := below_step hz_ hb
             replace HO_459000 := zE HO_459000 hz_ hg hb
             replace HO_459001 := zE HO_459001 hz_ hg hb
             replace HO_461000 := zE HO_461000 hz_ hg hb
             replace HO_461001 := zE HO_461001 hz_ hg hb
             replace HO475 := zE HO475 hz_ hg hb
             replace HO478 := zE HO478 hz_ hg hb
             have BK480 := Aside0.mk hbox
             have GW480 := zG HB hz_ hg
             have GE480 := zG HB hz_ hg
             have NB458_480 := zN BK458 hz_ hg
             have NB480_458 := zM BK458 hz_ hg
             have NB459_480 := zN BK459 hz_ hg
             have NB480_459 := zM BK459 hz_ hg
             have NB460_480 := zN BK460 hz_ hg
             have NB480_460 := zM BK460 hz_ hg
             replace BK458 := zB BK458 hb
             replace BK459 := zB BK459 hb
             replace BK460 := zB BK460 hb
             replace HB := zH HB hb
             clear hz_
             clear hb hbox hg
             refine hK.out _ _ ⟨(xC_ BK460.out 0).trans rfl, (xC_ BK460.out 1).trans rfl, ((HB.out.cell (World.block_lt_of_cell? w _ hw471_0)).trans hw471_0), ((HB.out.cell (World.block_lt_of_cell? w _ hw471_1)).trans hw471_1), ((HB.out.cell (World.block_lt_of_cell? w _ hw471_2)).trans hw471_2), ((HB.out.cell (World.block_lt_of_cell? w _ hw472_0)).trans hw472_0), ((HB.out.cell (World.block_lt_of_cell? w _ hw472_1)).trans hw472_1), ((HB.out.cell (World.block_lt_of_cell? w _ hw472_2)).trans hw472_2)⟩ (fun hHeld => ?_)
             clear hK K
             refine norm_ (a' := ?_) ?_ ?_
             rotate_left
             ·show Act.put _ (some 13) _ = _
              simp only [Act.put, List.setIfInBounds_toArray, List.set_cons_zero, List.set_cons_succ, i64_w, i32_w]
              rfl
             exact norm_ (by simp only [putAll, Act.put, List.setIfInBounds_toArray, List.set_cons_zero, List.set_cons_succ]) (hCont (v474, v477, gb480) _ ⟨hHeld, (by (with_reducible repeat (first | apply Kd.V_alloc | apply Kd.V_drewN | apply Kd.V_drew)); exact Kd.V_mono HO475.out (fun _ hk => ⟨hk.1.1, ⟨hk.1.2.1, ⟨hk.1.2.2.1, ⟨hk.1.2.2.2, hk.2⟩⟩⟩⟩)), (by (with_reducible repeat (first | apply Kd.V_alloc | apply Kd.V_drewN | apply Kd.V_drew)); exact Kd.V_mono HO478.out (fun _ hk => ⟨hk.1.1, ⟨hk.1.2.1, ⟨hk.1.2.2.1, ⟨hk.1.2.2.2, hk.2⟩⟩⟩⟩)), (by (with_reducible repeat (first | apply Kd.V_alloc | apply Kd.V_drewN | apply Kd.V_drew)); exact Kd.V_mono HO_459000.out (fun _ hk => ⟨hk.1.1, ⟨hk.1.2.1, ⟨hk.1.2.2.1, ⟨hk.1.2.2.2, hk.2⟩⟩⟩⟩)), (by (with_reducible repeat (first | apply Kd.V_alloc | apply Kd.V_drewN | apply Kd.V_drew)); exact Kd.V_mono HO_459001.out (fun _ hk => ⟨hk.1.1, ⟨hk.1.2.1, ⟨hk.1.2.2.1, ⟨hk.1.2.2.2, hk.2⟩⟩⟩⟩)), (by (with_reducible repeat (first | apply Kd.V_alloc | apply Kd.V_drewN | apply Kd.V_drew)); exact Kd.V_mono HO_461000.out (fun _ hk => ⟨hk.1.1, ⟨hk.1.2.1, ⟨hk.1.2.2.1, ⟨hk.1.2.2.2, hk.2⟩⟩⟩⟩)), (by (with_reducible repeat (first | apply Kd.V_alloc | apply Kd.V_drewN | apply Kd.V_drew)); exact Kd.V_mono HO_461001.out (fun _ hk => ⟨hk.1.1, ⟨hk.1.2.1, ⟨hk.1.2.2.1, ⟨hk.1.2.2.2, hk.2⟩⟩⟩⟩)), (by (with_reducible repeat (first | apply xN_ | apply xD_ | apply xA_)); exact BK458.out), (by (with_reducible repeat (first | apply xN_ | apply xD_ | apply xA_)); exact BK459.out), (by (with_reducible repeat (first | apply xN_ | apply xD_ | apply xA_)); exact BK460.out), (by (with_reducible repeat (first | apply xN_ | apply xD_ | apply xA_)); exact BK480.out), GW480.out, GE480.out, NB458_480.out, NB480_458.out, NB459_480.out, NB480_459.out, NB460_480.out, NB480_460.out, (by repeat (first | (with_reducible first | exact HB.out | apply yA_ | apply yN_ | apply yD_ | refine yS_ ?_ GE458.out | refine yS_ ?_ GE459.out | refine yS_ ?_ GE460.out | refine yS_ ?_ GE480.out) | exact HB.out))⟩)
            ·skip
             refine box_step ?hg (N := 13) ?hd (cs := #[.slice none 0 0, .slice none 0 0]) (t := 25) ?hr ?_; (case hd => rfl); (case hg => rfl); (case hr => first | (go_simp; done) | (go_simp; rfl))
             intro gb480 hg w78 hbox hb
             have hz_ := zq HB (by repeat (first | (with_reducible first | exact Below.refl _ _ | apply yA_ | apply yN_ | apply yD_) | exact Below.refl _ _)) hb
             replace hb := below_step hz_ hb
             replace HO_459000 := zE HO_459000 hz_ hg hb
             replace HO_459001 := zE HO_459001 hz_ hg hb
             replace HO_461000 := zE HO_461000 hz_ hg hb
             replace HO_461001 := zE HO_461001 hz_ hg hb
             have BK480 := Aside0.mk hbox
             have GW480 := zG HB hz_ hg
             have GE480 := zG HB hz_ hg
             have NB458_480 := zN BK458 hz_ hg
             have NB480_458 := zM BK458 hz_ hg
             have NB459_480 := zN BK459 hz_ hg
             have NB480_459 := zM BK459 hz_ hg
             have NB460_480 := zN BK460 hz_ hg
             have NB480_460 := zM BK460 hz_ hg
             replace BK458 := zB BK458 hb
             replace BK459 := zB BK459 hb
             replace BK460 := zB BK460 hb
             replace HB := zH HB hb
             clear hz_
             clear hb hbox hg
             refine hK.out _ _ ⟨(xC_ BK460.out 0).trans rfl, (xC_ BK460.out 1).trans rfl, ((HB.out.cell (World.block_lt_of_cell? w _ hw471_0)).trans hw471_0), ((HB.out.cell (World.block_lt_of_cell? w _ hw471_1)).trans hw471_1), ((HB.out.cell (World.block_lt_of_cell? w _ hw471_2)).trans hw471_2), ((HB.out.cell (World.block_lt_of_cell? w _ hw472_0)).trans hw472_0), ((HB.out.cell (World.block_lt_of_cell? w _ hw472_1)).trans hw472_1), ((HB.out.cell (World.block_lt_of_cell? w _ hw472_2)).trans hw472_2)⟩ (fun hHeld => ?_)
             clear hK K
             refine norm_ (a' := ?_) ?_ ?_
             rotate_left
             ·show Act.put _ (some 13) _ = _
              simp only [Act.put, List.setIfInBounds_toArray, List.set_cons_zero, List.set_cons_succ, i64_w, i32_w]
              rfl
             refine one_ (i := 11) (N := some 54) #[true, true, true, true, true, true, true, true, true, true, true, true, false, false, false, true, false, false] rfl rfl (one_of HT_.out (by kernel_rfl)) (by decide) (fun K hK => ?_)
             refine goes_ Try.func12 (by kernel_rfl) rfl #[.agg #[.slice Ao75 x461000_1.length co75, .slice Ao76 x461001_1.length co76], .int .i64 ((rd_T49 l1 x9_1).f1), .string ((rd_T49 l1 x9_1).f2)] (by rfl) rfl rfl (by (try simp only [List.map_toArray, List.map_cons, List.map_nil]); first | done | rfl) ?_
             with_reducible refine (armadaref01_Put.calls kj15 (fun k_ => ((((P0_0_ k_ ∨ P0_1_ k_) ∨ w.heap.size ≤ k_) ∧ (k_ ≠ gb458 ∧ (k_ ≠ gb459 ∧ k_ ≠ gb460))) ∧ k_ ≠ gb480)) _ _ x461000_1 (fun k_ => ((((P0_0_ k_ ∨ P0_1_ k_) ∨ w.heap.size ≤ k_) ∧ (k_ ≠ gb458 ∧ (k_ ≠ gb459 ∧ k_ ≠ gb460))) ∧ k_ ≠ gb480)) _ _ x461001_1 ((rd_T49 l1 x9_1).f1) ((rd_T49 l1 x9_1).f2) t473 t476 t479 _ ?side1 ?side2 A56.out).mono ?_
             (case side1 => exact HO_461000.out)
             (case side2 => exact HO_461001.out)
             rintro e w79 ⟨v474, v477, rfl, ho0, ho1, hb⟩
             refine ⟨_, rfl, ?_⟩
             have hz_ := zq HB (by repeat (first | (with_reducible first | exact Below.refl _ _ | apply yA_ | apply yN_ | apply yD_) | exact Below.refl _ _)) hb
             replace hb := below_step hz_ hb
             replace HO_459000 := zV HO_459000 hb
             replace HO_459001 := zV HO_459001 hb
             replace HO_461000 := zV HO_461000 hb
             replace HO_461001 := zV HO_461001 hb
             have HO475 := Aside0.mk (Kd.V_lower (Kd.V_mono (ok' := fun k_ => ((P0_0_ k_ ∨ P0_1_ k_) ∨ w.heap.size ≤ k_) ∧ k_ ≠ gb458 ∧ k_ ≠ gb459 ∧ k_ ≠ gb460 ∧ k_ ≠ gb480) ho0 (fun k_ hk_ => ⟨Or.elim hk_ (fun hs_ => Or.elim hs_ (fun hs_ => hs_.1.1) (fun hs_ => hs_.1.1)) (fun hn_ => (.inr (Nat.le_trans (zs HB hz_) hn_))), Or.elim hk_ (fun hs_ => Or.elim hs_ (fun hs_ => hs_.1.2.1) (fun hs_ => hs_.1.2.1)) (zf BK458 hz_ k_), Or.elim hk_ (fun hs_ => Or.elim hs_ (fun hs_ => hs_.1.2.2.1) (fun hs_ => hs_.1.2.2.1)) (zf BK459 hz_ k_), Or.elim hk_ (fun hs_ => Or.elim hs_ (fun hs_ => hs_.1.2.2.2) (fun hs_ => hs_.1.2.2.2)) (zf BK460 hz_ k_), Or.elim hk_ (fun hs_ => Or.elim hs_ (fun hs_ => hs_.2) (fun hs_ => hs_.2)) (zf BK480 hz_ k_)⟩)) (zs HB hz_))
             have HO478 := Aside0.mk (Kd.V_lower (Kd.V_mono (ok' := fun k_ => ((P0_0_ k_ ∨ P0_1_ k_) ∨ w.heap.size ≤ k_) ∧ k_ ≠ gb458 ∧ k_ ≠ gb459 ∧ k_ ≠ gb460 ∧ k_ ≠ gb480) ho1 (fun k_ hk_ => ⟨Or.elim hk_ (fun hs_ => Or.elim hs_ (fun hs_ => hs_.1.1) (fun hs_ => hs_.1.1)) (fun hn_ => (.inr (Nat.le_trans (zs HB hz_) hn_))), Or.elim hk_ (fun hs_ => Or.elim hs_ (fun hs_ => hs_.1.2.1) (fun hs_ => hs_.1.2.1)) (zf BK458 hz_ k_), Or.elim hk_ (fun hs_ => Or.elim hs_ (fun hs_ => hs_.1.2.2.1) (fun hs_ => hs_.1.2.2.1)) (zf BK459 hz_ k_), Or.elim hk_ (fun hs_ => Or.elim hs_ (fun hs_ => hs_.1.2.2.2) (fun hs_ => hs_.1.2.2.2)) (zf BK460 hz_ k_), Or.elim hk_ (fun hs_ => Or.elim hs_ (fun hs_ => hs_.2) (fun hs_ => hs_.2)) (zf BK480 hz_ k_)⟩)) (zs HB hz_))
             replace BK458 := zB BK458 hb
             replace BK459 := zB BK459 hb
             replace BK460 := zB BK460 hb
             replace BK480 := zB BK480 hb
             replace HB := zH HB hb
             clear hz_
             (try clear hb)
             (try clear hb2)
             (try clear hk)
             (try clear hi)
             (try clear ho0)
             (try clear ho1)
             refine hK.out _ _ ⟨(xC_ BK460.out 0).trans rfl, (xC_ BK460.out 1).trans rfl, ((HB.out.cell (World.block_lt_of_cell? w _ hw471_0)).trans hw471_0), ((HB.out.cell (World.block_lt_of_cell? w _ hw471_1)).trans hw471_1), ((HB.out.cell (World.block_lt_of_cell? w _ hw471_2)).trans hw471_2), ((HB.out.cell (World.block_lt_of_cell? w _ hw472_0)).trans hw472_0), ((HB.out.cell (World.block_lt_of_cell? w _ hw472_1)).trans hw472_1), ((HB.out.cell (World.block_lt_of_cell? w _ hw472_2)).trans hw472_2)⟩ (fun hHeld => ?_)
             clear hK K
             refine norm_ (a' := ?_) ?_ ?_
             rotate_left
             ·show Act.put _ (some 54) _ = _
              simp only [Act.put, List.setIfInBounds_toArray, List.set_cons_zero, List.set_cons_succ, i64_w, i32_w]
              rfl
             refine pure_ (i := 12) (N := some 42) (v := ?_) (a' := ?_) #[true, true, true, true, true, true, true, true, true, true, true, true, true, false, false, true, false, false] rfl rfl (any_of HT_.out (by kernel_rfl)) (fun _ _ _ h => h) (Or.inl ⟨by rfl, ?_⟩) ?_ ?_
             rotate_left
             ·intro w'
              go_simp
              with_reducible rfl
             rotate_left
             ·simp only [Act.put, List.setIfInBounds_toArray, List.set_cons_zero, List.set_cons_succ, i64_w, i32_w]
              rfl
             refine pure_ (i := 13) (N := some 55) (v := ?_) (a' := ?_) #[true, true, true, true, true, true, true, true, true, true, true, true, true, true, false, true, false, false] rfl rfl (any_of HT_.out (by kernel_rfl)) (fun _ _ _ h => h) (Or.inl ⟨by rfl, ?_⟩) ?_ ?_
             rotate_left
             ·intro w'
              go_simp
              with_reducible rfl
             rotate_left
             ·simp only [Act.put, List.setIfInBounds_toArray, List.set_cons_zero, List.set_cons_succ, i64_w, i32_w]
              rfl
             refine pure_ (i := 14) (N := some 56) (v := ?_) (a' := ?_) #[true, true, true, true, true, true, true, true, true, true, true, true, true, true, true, true, false, false] rfl rfl (any_of HT_.out (by kernel_rfl)) (fun _ _ _ h => h) (Or.inl ⟨by rfl, ?_⟩) ?_ ?_
             rotate_left
             ·intro w'
              go_simp
              with_reducible rfl
             rotate_left
             ·simp only [Act.put, List.setIfInBounds_toArray, List.set_cons_zero, List.set_cons_succ, i64_w, i32_w]
              rfl
             exact norm_ (by simp only [putAll, Act.put, List.setIfInBounds_toArray, List.set_cons_zero, List.set_cons_succ]) (hCont (v474, v477, gb480) _ ⟨hHeld, (by (with_reducible repeat (first | apply Kd.V_alloc | apply Kd.V_drewN | apply Kd.V_drew)); exact HO475.out), (by (with_reducible repeat (first | apply Kd.V_alloc | apply Kd.V_drewN | apply Kd.V_drew)); exact HO478.out), (by (with_reducible repeat (first | apply Kd.V_alloc | apply Kd.V_drewN | apply Kd.V_drew)); exact Kd.V_mono HO_459000.out (fun _ hk => ⟨hk.1.1, ⟨hk.1.2.1, ⟨hk.1.2.2.1, ⟨hk.1.2.2.2, hk.2⟩⟩⟩⟩)), (by (with_reducible repeat (first | apply Kd.V_alloc | apply Kd.V_drewN | apply Kd.V_drew)); exact Kd.V_mono HO_459001.out (fun _ hk => ⟨hk.1.1, ⟨hk.1.2.1, ⟨hk.1.2.2.1, ⟨hk.1.2.2.2, hk.2⟩⟩⟩⟩)), (by (with_reducible repeat (first | apply Kd.V_alloc | apply Kd.V_drewN | apply Kd.V_drew)); exact Kd.V_mono HO_461000.out (fun _ hk => ⟨hk.1.1, ⟨hk.1.2.1, ⟨hk.1.2.2.1, ⟨hk.1.2.2.2, hk.2⟩⟩⟩⟩)), (by (with_reducible repeat (first | apply Kd.V_alloc | apply Kd.V_drewN | apply Kd.V_drew)); exact Kd.V_mono HO_461001.out (fun _ hk => ⟨hk.1.1, ⟨hk.1.2.1, ⟨hk.1.2.2.1, ⟨hk.1.2.2.2, hk.2⟩⟩⟩⟩)), (by (with_reducible repeat (first | apply xN_ | apply xD_ | apply xA_)); exact BK458.out), (by (with_reducible repeat (first | apply xN_ | apply xD_ | apply xA_)); exact BK459.out), (by (with_reducible repeat (first | apply xN_ | apply xD_ | apply xA_)); exact BK460.out), (by (with_reducible repeat (first | apply xN_ | apply xD_ | apply xA_)); exact BK480.out), GW480.out, GE480.out, NB458_480.out, NB480_458.out, NB459_480.out, NB480_459.out, NB460_480.out, NB480_460.out, (by repeat (first | (with_reducible first | exact HB.out | apply yA_ | apply yN_ | apply yD_ | refine yS_ ?_ GE458.out | refine yS_ ?_ GE459.out | refine yS_ ?_ GE460.out | refine yS_ ?_ GE480.out) | exact HB.out))⟩)
           rintro ⟨v474, v477, gb480⟩ w80 ⟨hS_, h0_, h1_, h2_, h3_, h4_, h5_, h6_, h7_, h8_, h9_, h10_, h11_, h12_, h13_, h14_, h15_, h16_, h17_, h18_⟩
           have n0_ : Aside0 (Kd.V Kd.string 9 w80 w.heap.size (fun k_ => ((P0_0_ k_ ∨ P0_1_ k_) ∨ w.heap.size ≤ k_) ∧ k_ ≠ gb458 ∧ k_ ≠ gb459 ∧ k_ ≠ gb460 ∧ k_ ≠ gb480) v474 t473) := ⟨h0_⟩
           have n1_ : Aside0 (Kd.V k27 27 w80 w.heap.size (fun k_ => ((P0_0_ k_ ∨ P0_1_ k_) ∨ w.heap.size ≤ k_) ∧ k_ ≠ gb458 ∧ k_ ≠ gb459 ∧ k_ ≠ gb460 ∧ k_ ≠ gb480) v477 t476) := ⟨h1_⟩
           have n2_ : Aside0 (Kd.V Kd.string 9 w80 w.heap.size (fun k_ => ((P0_0_ k_ ∨ P0_1_ k_) ∨ w.heap.size ≤ k_) ∧ k_ ≠ gb458 ∧ k_ ≠ gb459 ∧ k_ ≠ gb460 ∧ k_ ≠ gb480) (.slice A0_0 l0_0.length c0_0) l0_0) := ⟨h2_⟩
           have n3_ : Aside0 (Kd.V k27 27 w80 w.heap.size (fun k_ => ((P0_0_ k_ ∨ P0_1_ k_) ∨ w.heap.size ≤ k_) ∧ k_ ≠ gb458 ∧ k_ ≠ gb459 ∧ k_ ≠ gb460 ∧ k_ ≠ gb480) (.slice A0_1 l0_1.length c0_1) l0_1) := ⟨h3_⟩
           have n4_ : Aside0 (Kd.V Kd.string 9 w80 w.heap.size (fun k_ => ((P0_0_ k_ ∨ P0_1_ k_) ∨ w.heap.size ≤ k_) ∧ k_ ≠ gb458 ∧ k_ ≠ gb459 ∧ k_ ≠ gb460 ∧ k_ ≠ gb480) (.slice Ao75 x461000_1.length co75) x461000_1) := ⟨h4_⟩
           have n5_ : Aside0 (Kd.V k27 27 w80 w.heap.size (fun k_ => ((P0_0_ k_ ∨ P0_1_ k_) ∨ w.heap.size ≤ k_) ∧ k_ ≠ gb458 ∧ k_ ≠ gb459 ∧ k_ ≠ gb460 ∧ k_ ≠ gb480) (.slice Ao76 x461001_1.length co76) x461001_1) := ⟨h5_⟩
           have n6_ : Aside0 (w80.heap[gb458]? = some (.cells #[.slice A0_0 l0_0.length c0_0, .slice A0_1 l0_1.length c0_1] 25 (0, 0))) := ⟨h6_⟩
           have n7_ : Aside0 (w80.heap[gb459]? = some (.cells #[.slice none 0 0, .slice none 0 0] 25 (0, 0))) := ⟨h7_⟩
           have n8_ : Aside0 (w80.heap[gb460]? = some (.cells #[.slice Ao75 x461000_1.length co75, .slice Ao76 x461001_1.length co76] 25 (0, 0))) := ⟨h8_⟩
           have n9_ : Aside0 (w80.heap[gb480]? = some (.cells #[.slice none 0 0, .slice none 0 0] 25 (0, 0))) := ⟨h9_⟩
           have n10_ : Aside0 (w.heap.size ≤ gb480) := ⟨h10_⟩
           have n11_ : Aside0 (w.heap.size ≤ gb480) := ⟨h11_⟩
           have n12_ : Aside0 (gb458 ≠ gb480) := ⟨h12_⟩
           have n13_ : Aside0 (gb480 ≠ gb458) := ⟨h13_⟩
           have n14_ : Aside0 (gb459 ≠ gb480) := ⟨h14_⟩
           have n15_ : Aside0 (gb480 ≠ gb459) := ⟨h15_⟩
           have n16_ : Aside0 (gb460 ≠ gb480) := ⟨h16_⟩
           have n17_ : Aside0 (gb480 ≠ gb460) := ⟨h17_⟩
           have n18_ : Aside0 (Below w.heap.size w w80) := ⟨h18_⟩
           clear HO_459000
           clear HO_459001
           clear HO_461000
           clear HO_461001
           clear BK458
           clear BK459
           clear BK460
           clear HB
           clear h0_ h1_ h2_ h3_ h4_ h5_ h6_ h7_ h8_ h9_ h10_ h11_ h12_ h13_ h14_ h15_ h16_ h17_ h18_
           have HO475 := n0_
           have HO478 := n1_
           have HO_459000 := n2_
           have HO_459001 := n3_
           have HO_461000 := n4_
           have HO_461001 := n5_
           have BK458 := n6_
           have BK459 := n7_
           have BK460 := n8_
           have BK480 := n9_
           have GW480 := n10_
           have GE480 := n11_
           have NB458_480 := n12_
           have NB480_458 := n13_
           have NB459_480 := n14_
           have NB480_459 := n15_
           have NB460_480 := n16_
           have NB480_460 := n17_
           have HB := n18_
           clear n0_ n1_ n2_ n3_ n4_ n5_ n6_ n7_ n8_ n9_ n10_ n11_ n12_ n13_ n14_ n15_ n16_ n17_ n18_
           have hHeld : w80.cell? ⟨gb460, 0, none⟩ = some (.slice Ao75 x461000_1.length co75) ∧ w80.cell? ⟨gb460, 1, none⟩ = some (.slice Ao76 x461001_1.length co76) ∧ w80.cell? (ad462.add ((x9_1).toNat * 3)) = some (.bool (false)) ∧ w80.cell? ⟨(ad462.add ((x9_1).toNat * 3)).block, (ad462.add ((x9_1).toNat * 3)).off + 1, none⟩ = some (.int .i64 ((rd_T49 l1 x9_1).f1)) ∧ w80.cell? ⟨(ad462.add ((x9_1).toNat * 3)).block, (ad462.add ((x9_1).toNat * 3)).off + 2, none⟩ = some (.string ((rd_T49 l1 x9_1).f2)) ∧ w80.cell? (ad462.add ((x9_1).toNat * 3)) = some (.bool (false)) ∧ w80.cell? ⟨(ad462.add ((x9_1).toNat * 3)).block, (ad462.add ((x9_1).toNat * 3)).off + 1, none⟩ = some (.int .i64 ((rd_T49 l1 x9_1).f1)) ∧ w80.cell? ⟨(ad462.add ((x9_1).toNat * 3)).block, (ad462.add ((x9_1).toNat * 3)).off + 2, none⟩ = some (.string ((rd_T49 l1 x9_1).f2)) := hS_
           obtain ⟨Ao81, co81, eo81⟩ := Kd.V_slice HO475.out
           (first | subst eo81 | (injection eo81 with f1_ f2_ f3_; have f4_ := f1_.symm; have f5_ := f3_.symm; clear f1_ f2_ f3_; subst f4_; subst f5_))
           obtain ⟨Ao83, co83, eo83⟩ := Kd.V_slice HO478.out
           (first | subst eo83 | (injection eo83 with f1_ f2_ f3_; have f4_ := f1_.symm; have f5_ := f3_.symm; clear f1_ f2_ f3_; subst f4_; subst f5_))
           refine norm_ (a' := ?_) ?_ ?_
           rotate_left
           ·simp only [putAll, Act.put, List.setIfInBounds_toArray, List.set_cons_zero, List.set_cons_succ]
            rfl
           refine one_ (i := 16) (N := none) #[true, true, true, true, true, true, true, true, true, true, true, true, true, true, true, true, true, false] rfl rfl (one_of HT_.out (by kernel_rfl)) (by decide) (fun K hK => ?_)
           have hs82 : w80.cell? ⟨gb480, 0, none⟩ = some (.slice none 0 0) := (xC_ BK480.out 0).trans rfl
           have hfs82 := xF_ BK480.out 0
           have hns82_0 := NB458_480.out
           have hns82_1 := NB459_480.out
           have hns82_2 := NB460_480.out
           have hms82_0 := NB480_458.out
           have hms82_1 := NB480_459.out
           have hms82_2 := NB480_460.out
           have hs84 : w80.cell? ⟨gb480, 1, none⟩ = some (.slice none 0 0) := (xC_ BK480.out 1).trans rfl
           have hfs84 := xF_ BK480.out 1
           have hns84_0 := NB458_480.out
           have hns84_1 := NB459_480.out
           have hns84_2 := NB460_480.out
           have hms84_0 := NB480_458.out
           have hms84_1 := NB480_459.out
           have hms84_2 := NB480_460.out
           refine skip_ (w1 := ?_) (by rfl) rfl ?_ ?_
           rotate_left
           ·go_simp
            rfl
           refine hK.out _ _ ⟨((cell_far (p := ⟨gb480, _, none⟩) NB460_480.out _).trans (((cell_far (p := ⟨gb480, _, none⟩) NB460_480.out _).trans (hHeld.1)))), ((cell_far (p := ⟨gb480, _, none⟩) NB460_480.out _).trans (((cell_far (p := ⟨gb480, _, none⟩) NB460_480.out _).trans (hHeld.2.1)))), ((cell_far (p := ⟨gb480, _, none⟩) (by first | exact Nat.ne_of_lt (Nat.lt_of_lt_of_le (by have := World.block_lt_of_cell? _ _ hw471_0; first | rwa [add_block] at this | exact this) GW480.out) | (rw [add_block]; exact Nat.ne_of_lt (Nat.lt_of_lt_of_le (by have := World.block_lt_of_cell? _ _ hw471_0; first | rwa [add_block] at this | exact this) GW480.out)) | (show (Addr.add _ _).block ≠ _; rw [add_block]; exact Nat.ne_of_lt (Nat.lt_of_lt_of_le (by have := World.block_lt_of_cell? _ _ hw471_0; first | rwa [add_block] at this | exact this) GW480.out)) | (dsimp only; exact Nat.ne_of_lt (Nat.lt_of_lt_of_le (by have := World.block_lt_of_cell? _ _ hw471_0; first | rwa [add_block] at this | exact this) GW480.out))) _).trans (((cell_far (p := ⟨gb480, _, none⟩) (by first | exact Nat.ne_of_lt (Nat.lt_of_lt_of_le (by have := World.block_lt_of_cell? _ _ hw471_0; first | rwa [add_block] at this | exact this) GW480.out) | (rw [add_block]; exact Nat.ne_of_lt (Nat.lt_of_lt_of_le (by have := World.block_lt_of_cell? _ _ hw471_0; first | rwa [add_block] at this | exact this) GW480.out)) | (show (Addr.add _ _).block ≠ _; rw [add_block]; exact Nat.ne_of_lt (Nat.lt_of_lt_of_le (by have := World.block_lt_of_cell? _ _ hw471_0; first | rwa [add_block] at this | exact this) GW480.out)) | (dsimp only; exact Nat.ne_of_lt (Nat.lt_of_lt_of_le (by have := World.block_lt_of_cell? _ _ hw471_0; first | rwa [add_block] at this | exact this) GW480.out))) _).trans (hHeld.2.2.1)))), ((cell_far (p := ⟨gb480, _, none⟩) (by first | exact Nat.ne_of_lt (Nat.lt_of_lt_of_le (by have := World.block_lt_of_cell? _ _ hw471_1; first | rwa [add_block] at this | exact this) GW480.out) | (rw [add_block]; exact Nat.ne_of_lt (Nat.lt_of_lt_of_le (by have := World.block_lt_of_cell? _ _ hw471_1; first | rwa [add_block] at this | exact this) GW480.out)) | (show (Addr.add _ _).block ≠ _; rw [add_block]; exact Nat.ne_of_lt (Nat.lt_of_lt_of_le (by have := World.block_lt_of_cell? _ _ hw471_1; first | rwa [add_block] at this | exact this) GW480.out)) | (dsimp only; exact Nat.ne_of_lt (Nat.lt_of_lt_of_le (by have := World.block_lt_of_cell? _ _ hw471_1; first | rwa [add_block] at this | exact this) GW480.out))) _).trans (((cell_far (p := ⟨gb480, _, none⟩) (by first | exact Nat.ne_of_lt (Nat.lt_of_lt_of_le (by have := World.block_lt_of_cell? _ _ hw471_1; first | rwa [add_block] at this | exact this) GW480.out) | (rw [add_block]; exact Nat.ne_of_lt (Nat.lt_of_lt_of_le (by have := World.block_lt_of_cell? _ _ hw471_1; first | rwa [add_block] at this | exact this) GW480.out)) | (show (Addr.add _ _).block ≠ _; rw [add_block]; exact Nat.ne_of_lt (Nat.lt_of_lt_of_le (by have := World.block_lt_of_cell? _ _ hw471_1; first | rwa [add_block] at this | exact this) GW480.out)) | (dsimp only; exact Nat.ne_of_lt (Nat.lt_of_lt_of_le (by have := World.block_lt_of_cell? _ _ hw471_1; first | rwa [add_block] at this | exact this) GW480.out))) _).trans (hHeld.2.2.2.1)))), ((cell_far (p := ⟨gb480, _, none⟩) (by first | exact Nat.ne_of_lt (Nat.lt_of_lt_of_le (by have := World.block_lt_of_cell? _ _ hw471_2; first | rwa [add_block] at this | exact this) GW480.out) | (rw [add_block]; exact Nat.ne_of_lt (Nat.lt_of_lt_of_le (by have := World.block_lt_of_cell? _ _ hw471_2; first | rwa [add_block] at this | exact this) GW480.out)) | (show (Addr.add _ _).block ≠ _; rw [add_block]; exact Nat.ne_of_lt (Nat.lt_of_lt_of_le (by have := World.block_lt_of_cell? _ _ hw471_2; first | rwa [add_block] at this | exact this) GW480.out)) | (dsimp only; exact Nat.ne_of_lt (Nat.lt_of_lt_of_le (by have := World.block_lt_of_cell? _ _ hw471_2; first | rwa [add_block] at this | exact this) GW480.out))) _).trans (((cell_far (p := ⟨gb480, _, none⟩) (by first | exact Nat.ne_of_lt (Nat.lt_of_lt_of_le (by have := World.block_lt_of_cell? _ _ hw471_2; first | rwa [add_block] at this | exact this) GW480.out) | (rw [add_block]; exact Nat.ne_of_lt (Nat.lt_of_lt_of_le (by have := World.block_lt_of_cell? _ _ hw471_2; first | rwa [add_block] at this | exact this) GW480.out)) | (show (Addr.add _ _).block ≠ _; rw [add_block]; exact Nat.ne_of_lt (Nat.lt_of_lt_of_le (by have := World.block_lt_of_cell? _ _ hw471_2; first | rwa [add_block] at this | exact this) GW480.out)) | (dsimp only; exact Nat.ne_of_lt (Nat.lt_of_lt_of_le (by have := World.block_lt_of_cell? _ _ hw471_2; first | rwa [add_block] at this | exact this) GW480.out))) _).trans (hHeld.2.2.2.2.1)))), ((cell_far (p := ⟨gb480, _, none⟩) (by first | exact Nat.ne_of_lt (Nat.lt_of_lt_of_le (by have := World.block_lt_of_cell? _ _ hw472_0; first | rwa [add_block] at this | exact this) GW480.out) | (rw [add_block]; exact Nat.ne_of_lt (Nat.lt_of_lt_of_le (by have := World.block_lt_of_cell? _ _ hw472_0; first | rwa [add_block] at this | exact this) GW480.out)) | (show (Addr.add _ _).block ≠ _; rw [add_block]; exact Nat.ne_of_lt (Nat.lt_of_lt_of_le (by have := World.block_lt_of_cell? _ _ hw472_0; first | rwa [add_block] at this | exact this) GW480.out)) | (dsimp only; exact Nat.ne_of_lt (Nat.lt_of_lt_of_le (by have := World.block_lt_of_cell? _ _ hw472_0; first | rwa [add_block] at this | exact this) GW480.out))) _).trans (((cell_far (p := ⟨gb480, _, none⟩) (by first | exact Nat.ne_of_lt (Nat.lt_of_lt_of_le (by have := World.block_lt_of_cell? _ _ hw472_0; first | rwa [add_block] at this | exact this) GW480.out) | (rw [add_block]; exact Nat.ne_of_lt (Nat.lt_of_lt_of_le (by have := World.block_lt_of_cell? _ _ hw472_0; first | rwa [add_block] at this | exact this) GW480.out)) | (show (Addr.add _ _).block ≠ _; rw [add_block]; exact Nat.ne_of_lt (Nat.lt_of_lt_of_le (by have := World.block_lt_of_cell? _ _ hw472_0; first | rwa [add_block] at this | exact this) GW480.out)) | (dsimp only; exact Nat.ne_of_lt (Nat.lt_of_lt_of_le (by have := World.block_lt_of_cell? _ _ hw472_0; first | rwa [add_block] at this | exact this) GW480.out))) _).trans (hHeld.2.2.2.2.2.1)))), ((cell_far (p := ⟨gb480, _, none⟩) (by first | exact Nat.ne_of_lt (Nat.lt_of_lt_of_le (by have := World.block_lt_of_cell? _ _ hw472_1; first | rwa [add_block] at this | exact this) GW480.out) | (rw [add_block]; exact Nat.ne_of_lt (Nat.lt_of_lt_of_le (by have := World.block_lt_of_cell? _ _ hw472_1; first | rwa [add_block] at this | exact this) GW480.out)) | (show (Addr.add _ _).block ≠ _; rw [add_block]; exact Nat.ne_of_lt (Nat.lt_of_lt_of_le (by have := World.block_lt_of_cell? _ _ hw472_1; first | rwa [add_block] at this | exact this) GW480.out)) | (dsimp only; exact Nat.ne_of_lt (Nat.lt_of_lt_of_le (by have := World.block_lt_of_cell? _ _ hw472_1; first | rwa [add_block] at this | exact this) GW480.out))) _).trans (((cell_far (p := ⟨gb480, _, none⟩) (by first | exact Nat.ne_of_lt (Nat.lt_of_lt_of_le (by have := World.block_lt_of_cell? _ _ hw472_1; first | rwa [add_block] at this | exact this) GW480.out) | (rw [add_block]; exact Nat.ne_of_lt (Nat.lt_of_lt_of_le (by have := World.block_lt_of_cell? _ _ hw472_1; first | rwa [add_block] at this | exact this) GW480.out)) | (show (Addr.add _ _).block ≠ _; rw [add_block]; exact Nat.ne_of_lt (Nat.lt_of_lt_of_le (by have := World.block_lt_of_cell? _ _ hw472_1; first | rwa [add_block] at this | exact this) GW480.out)) | (dsimp only; exact Nat.ne_of_lt (Nat.lt_of_lt_of_le (by have := World.block_lt_of_cell? _ _ hw472_1; first | rwa [add_block] at this | exact this) GW480.out))) _).trans (hHeld.2.2.2.2.2.2.1)))), ((cell_far (p := ⟨gb480, _, none⟩) (by first | exact Nat.ne_of_lt (Nat.lt_of_lt_of_le (by have := World.block_lt_of_cell? _ _ hw472_2; first | rwa [add_block] at this | exact this) GW480.out) | (rw [add_block]; exact Nat.ne_of_lt (Nat.lt_of_lt_of_le (by have := World.block_lt_of_cell? _ _ hw472_2; first | rwa [add_block] at this | exact this) GW480.out)) | (show (Addr.add _ _).block ≠ _; rw [add_block]; exact Nat.ne_of_lt (Nat.lt_of_lt_of_le (by have := World.block_lt_of_cell? _ _ hw472_2; first | rwa [add_block] at this | exact this) GW480.out)) | (dsimp only; exact Nat.ne_of_lt (Nat.lt_of_lt_of_le (by have := World.block_lt_of_cell? _ _ hw472_2; first | rwa [add_block] at this | exact this) GW480.out))) _).trans (((cell_far (p := ⟨gb480, _, none⟩) (by first | exact Nat.ne_of_lt (Nat.lt_of_lt_of_le (by have := World.block_lt_of_cell? _ _ hw472_2; first | rwa [add_block] at this | exact this) GW480.out) | (rw [add_block]; exact Nat.ne_of_lt (Nat.lt_of_lt_of_le (by have := World.block_lt_of_cell? _ _ hw472_2; first | rwa [add_block] at this | exact this) GW480.out)) | (show (Addr.add _ _).block ≠ _; rw [add_block]; exact Nat.ne_of_lt (Nat.lt_of_lt_of_le (by have := World.block_lt_of_cell? _ _ hw472_2; first | rwa [add_block] at this | exact this) GW480.out)) | (dsimp only; exact Nat.ne_of_lt (Nat.lt_of_lt_of_le (by have := World.block_lt_of_cell? _ _ hw472_2; first | rwa [add_block] at this | exact this) GW480.out))) _).trans (hHeld.2.2.2.2.2.2.2))))⟩ (fun hHeld => ?_)
           clear hK K
           refine pure_ (i := 17) (N := some 14) (v := ?_) (a' := ?_) #[true, true, true, true, true, true, true, true, true, true, true, true, true, true, true, true, true, true] rfl rfl (any_of HT_.out (by kernel_rfl)) (fun _ _ _ h => h) (Or.inl ⟨by rfl, ?_⟩) ?_ ?_
           rotate_left
           ·intro w'
            go_simp
            with_reducible rfl
           rotate_left
           ·simp only [Act.put, List.setIfInBounds_toArray, List.set_cons_zero, List.set_cons_succ, i64_w, i32_w]
            rfl
           refine done_ (done_of HT_.out (by kernel_rfl)) ?_
           have hnb85 := NB480_458.out
           have hnc85 := NB458_480.out
           have hnb86 := NB480_459.out
           have hnc86 := NB459_480.out
           have hnb87 := NB480_460.out
           have hnc87 := NB460_480.out
           have hcz88_0 : w80.cell? ⟨gb480, 0, none⟩ = some (.slice none 0 0) := (xC_ BK480.out 0).trans rfl
           have hcz88_1 : w80.cell? ⟨gb480, 1, none⟩ = some (.slice none 0 0) := (xC_ BK480.out 1).trans rfl
           have hfz88_0 := xF_ BK480.out 0
           have hfz88_1 := xF_ BK480.out 1
           have hnb89 := NB460_458.out
           have hnc89 := NB458_460.out
           have hnb90 := NB460_459.out
           have hnc90 := NB459_460.out
           have hcz91_0 : w80.cell? ⟨gb460, 0, none⟩ = some (.slice Ao75 x461000_1.length co75) := (xC_ BK460.out 0).trans rfl
           have hcz91_1 : w80.cell? ⟨gb460, 1, none⟩ = some (.slice Ao76 x461001_1.length co76) := (xC_ BK460.out 1).trans rfl
           have hfz91_0 := xF_ BK460.out 0
           have hfz91_1 := xF_ BK460.out 1
           have hnb92 := NB458_459.out
           have hnc92 := NB459_458.out
           have hcz93_0 : w80.cell? ⟨gb458, 0, none⟩ = some (.slice A0_0 l0_0.length c0_0) := (xC_ BK458.out 0).trans rfl
           have hcz93_1 : w80.cell? ⟨gb458, 1, none⟩ = some (.slice A0_1 l0_1.length c0_1) := (xC_ BK458.out 1).trans rfl
           have hfz93_0 := xF_ BK458.out 0
           have hfz93_1 := xF_ BK458.out 1
           have hcz94_0 : w80.cell? ⟨gb459, 0, none⟩ = some (.slice none 0 0) := (xC_ BK459.out 0).trans rfl
           have hcz94_1 : w80.cell? ⟨gb459, 1, none⟩ = some (.slice none 0 0) := (xC_ BK459.out 1).trans rfl
           have hfz94_0 := xF_ BK459.out 0
           have hfz94_1 := xF_ BK459.out 1
           try go_wp2
           refine bodyPost_ret (results_ct rfl _ _ gb459 25 #[.slice A0_0 l0_0.length c0_0, .slice A0_1 l0_1.length c0_1] (0, 0) _ rfl (by (with_reducible repeat (first | apply xN_ | apply xD_ | apply xA_)); refine blk_put (cs := #[.slice A0_0 l0_0.length c0_0, .slice none 0 0]) ?_ 1 _ rfl; refine blk_put (cs := #[.slice none 0 0, .slice none 0 0]) ?_ 0 _ rfl; refine xR_ ?_ NB459_460.out _; refine xR_ ?_ NB459_460.out _; refine xR_ ?_ NB459_480.out _; refine xR_ ?_ NB459_480.out _; (with_reducible repeat (first | apply xN_ | apply xD_ | apply xA_)); exact BK459.out) Try.underlying25 rfl (by kernel_rfl)) rfl ?_
           exact ⟨_, _, by first | rfl | (simp [errW_none, errW_some] <;> rfl) | (simp [*, errW_none, errW_some] <;> rfl), by (with_reducible repeat (first | apply Kd.V_alloc | apply Kd.V_drewN | apply Kd.V_drew)); exact Kd.V_mono (Kd.V_far (p := ⟨gb459, 1, none⟩) (Kd.V_far (p := ⟨gb459, 0, none⟩) (Kd.V_far (p := ⟨gb460, 1, none⟩) (Kd.V_far (p := ⟨gb460, 0, none⟩) (Kd.V_far (p := ⟨gb480, 1, none⟩) (Kd.V_far (p := ⟨gb480, 0, none⟩) (Kd.V_mono (Kd.V_mono (Kd.V_mono HO_459000.out (fun k_ hk => (⟨hk, hk.2.2.2.2⟩ : _ ∧ k_ ≠ gb480))) (fun k_ hk => (⟨hk, hk.1.2.2.2.1⟩ : _ ∧ k_ ≠ gb460))) (fun k_ hk => (⟨hk, hk.1.1.2.2.1⟩ : _ ∧ k_ ≠ gb459))) (fun _ hk => hk.1.1.2) (.slice Ao81 t473.length co81)) (fun _ hk => hk.1.1.2) (.slice Ao83 t476.length co83)) (fun _ hk => hk.1.2) (.slice Ao81 t473.length co81)) (fun _ hk => hk.1.2) (.slice Ao83 t476.length co83)) (fun _ hk => hk.2) (.slice A0_0 l0_0.length c0_0)) (fun _ hk => hk.2) (.slice A0_1 l0_1.length c0_1)) (fun _ hk => hk.1.1.1.1), by (with_reducible repeat (first | apply Kd.V_alloc | apply Kd.V_drewN | apply Kd.V_drew)); exact Kd.V_mono (Kd.V_far (p := ⟨gb459, 1, none⟩) (Kd.V_far (p := ⟨gb459, 0, none⟩) (Kd.V_far (p := ⟨gb460, 1, none⟩) (Kd.V_far (p := ⟨gb460, 0, none⟩) (Kd.V_far (p := ⟨gb480, 1, none⟩) (Kd.V_far (p := ⟨gb480, 0, none⟩) (Kd.V_mono (Kd.V_mono (Kd.V_mono HO_459001.out (fun k_ hk => (⟨hk, hk.2.2.2.2⟩ : _ ∧ k_ ≠ gb480))) (fun k_ hk => (⟨hk, hk.1.2.2.2.1⟩ : _ ∧ k_ ≠ gb460))) (fun k_ hk => (⟨hk, hk.1.1.2.2.1⟩ : _ ∧ k_ ≠ gb459))) (fun _ hk => hk.1.1.2) (.slice Ao81 t473.length co81)) (fun _ hk => hk.1.1.2) (.slice Ao83 t476.length co83)) (fun _ hk => hk.1.2) (.slice Ao81 t473.length co81)) (fun _ hk => hk.1.2) (.slice Ao83 t476.length co83)) (fun _ hk => hk.2) (.slice A0_0 l0_0.length c0_0)) (fun _ hk => hk.2) (.slice A0_1 l0_1.length c0_1)) (fun _ hk => hk.1.1.1.1), by repeat (first | (with_reducible first | exact HB.out | apply yA_ | apply yN_ | apply yD_ | refine yS_ ?_ GE458.out | refine yS_ ?_ GE459.out | refine yS_ ?_ GE460.out | refine yS_ ?_ GE480.out) | exact HB.out)⟩
        ·rw [if_neg c20] at H
         exact absurd H (by simp)
       ·rw [if_neg c19] at H
        exact absurd H (by simp)
      ·replace c18 := Bool.eq_false_iff.mpr c18
       subst c18
       have H1 : (some (x461000_1, x461001_1, 0)) = some (r1, r2, r3) := by rw [if_neg (show ¬ (false = true) by decide)] at H; exact H
       clear H
       have H := H1
       clear H1
       simp only [Option.some.injEq, Prod.mk.injEq] at H
       obtain ⟨rfl, rfl, rfl⟩ := H
       have hnb95 := NB460_458.out
       have hnc95 := NB458_460.out
       have hnb96 := NB460_459.out
       have hnc96 := NB459_460.out
       have hcz97_0 : wc.cell? ⟨gb460, 0, none⟩ = some (u461000) := (xC_ BK460.out 0).trans rfl
       have hcz97_1 : wc.cell? ⟨gb460, 1, none⟩ = some (u461001) := (xC_ BK460.out 1).trans rfl
       have hfz97_0 := xF_ BK460.out 0
       have hfz97_1 := xF_ BK460.out 1
       obtain ⟨Ao98, co98, eo98⟩ := Kd.V_slice HO_461000.out
       subst eo98
       have hnb99 := NB459_458.out
       have hnc99 := NB458_459.out
       have hcz100_0 : wc.cell? ⟨gb459, 0, none⟩ = some (.slice none 0 0) := (xC_ BK459.out 0).trans rfl
       have hcz100_1 : wc.cell? ⟨gb459, 1, none⟩ = some (.slice none 0 0) := (xC_ BK459.out 1).trans rfl
       have hfz100_0 := xF_ BK459.out 0
       have hfz100_1 := xF_ BK459.out 1
       obtain ⟨Ao101, co101, eo101⟩ := Kd.V_slice HO_461001.out
       subst eo101
       go_wp2
       refine bodyPost_ret (results_ct rfl _ _ gb459 25 #[.slice Ao98 x461000_1.length co98, .slice Ao101 x461001_1.length co101] (0, 0) _ rfl (by (with_reducible repeat (first | apply xN_ | apply xD_ | apply xA_)); refine blk_put (cs := #[.slice Ao98 x461000_1.length co98, .slice none 0 0]) ?_ 1 _ rfl; refine blk_put (cs := #[.slice none 0 0, .slice none 0 0]) ?_ 0 _ rfl; (with_reducible repeat (first | apply xN_ | apply xD_ | apply xA_)); exact BK459.out) Try.underlying25 rfl (by kernel_rfl)) rfl ?_
       exact ⟨_, _, by first | rfl | (simp [errW_none, errW_some] <;> rfl) | (simp [*, errW_none, errW_some] <;> rfl), by (with_reducible repeat (first | apply Kd.V_alloc | apply Kd.V_drewN | apply Kd.V_drew)); exact Kd.V_mono (Kd.V_far (p := ⟨gb459, 1, none⟩) (Kd.V_far (p := ⟨gb459, 0, none⟩) (Kd.V_mono HO_461000.out (fun k_ hk => (⟨hk, hk.2.2.1⟩ : _ ∧ k_ ≠ gb459))) (fun _ hk => hk.2) (.slice Ao98 x461000_1.length co98)) (fun _ hk => hk.2) (.slice Ao101 x461001_1.length co101)) (fun _ hk => hk.1.1), by (with_reducible repeat (first | apply Kd.V_alloc | apply Kd.V_drewN | apply Kd.V_drew)); exact Kd.V_mono (Kd.V_far (p := ⟨gb459, 1, none⟩) (Kd.V_far (p := ⟨gb459, 0, none⟩) (Kd.V_mono HO_461001.out (fun k_ hk => (⟨hk, hk.2.2.1⟩ : _ ∧ k_ ≠ gb459))) (fun _ hk => hk.2) (.slice Ao98 x461000_1.length co98)) (fun _ hk => hk.2) (.slice Ao101 x461001_1.length co101)) (fun _ hk => hk.1.1), by repeat (first | (with_reducible first | exact HB.out | apply yA_ | apply yN_ | apply yD_ | refine yS_ ?_ GE458.out | refine yS_ ?_ GE459.out | refine yS_ ?_ GE460.out) | exact HB.out)⟩
 ·replace c5 := Bool.eq_false_iff.mpr c5
  subst c5
  have H1 : (some (l0_0, l0_1, 1)) = some (r1, r2, r3) := by rw [if_neg (show ¬ (false = true) by decide)] at H; exact H
  clear H
  have H := H1
  clear H1
  simp only [Option.some.injEq, Prod.mk.injEq] at H
  obtain ⟨rfl, rfl, rfl⟩ := H
  go_enter Try.func27, Try.ntmps27
  go_wp2_with (first | ((with_reducible refine gate_dst (N := 3) rfl ?_); refine box_event ?hg (N := 3) ?hd (cs := #[.slice A0_0 l0_0.length c0_0, .slice A0_1 l0_1.length c0_1]) (t := 25) ?hr ?_; (case hd => rfl); (case hg => rfl); (case hr => first | (go_simp; done) | (go_simp; rfl)); intro gb458 hg w102 hbox hb; have hz_ := zq HB (by repeat (first | (with_reducible first | exact Below.refl _ _ | apply yA_ | apply yN_ | apply yD_) | exact Below.refl _ _)) hb; replace hb := below_step hz_ hb; replace HO0_0 := zE HO0_0 hz_ hg hb; replace HO0_1 := zE HO0_1 hz_ hg hb; have BK458 := Aside0.mk hbox; have GW458 := zG HB hz_ hg; have GE458 := zG HB hz_ hg; replace HB := zH HB hb; clear hz_; clear hb hbox hg) | ((with_reducible refine gate_dst (N := 6) rfl ?_); refine box_event ?hg (N := 6) ?hd (cs := #[.slice none 0 0, .slice none 0 0]) (t := 25) ?hr ?_; (case hd => rfl); (case hg => rfl); (case hr => first | (go_simp; done) | (go_simp; rfl)); intro gb459 hg w103 hbox hb; have hz_ := zq HB (by repeat (first | (with_reducible first | exact Below.refl _ _ | apply yA_ | apply yN_ | apply yD_) | exact Below.refl _ _)) hb; replace hb := below_step hz_ hb; replace HO0_0 := zE HO0_0 hz_ hg hb; replace HO0_1 := zE HO0_1 hz_ hg hb; have BK459 := Aside0.mk hbox; have GW459 := zG HB hz_ hg; have GE459 := zG HB hz_ hg; have NB458_459 := zN BK458 hz_ hg; have NB459_458 := zM BK458 hz_ hg; replace BK458 := zB BK458 hb; replace HB := zH HB hb; clear hz_; clear hb hbox hg; have hnb104 := NB458_459.out; have hnc104 := NB459_458.out; have hcz105_0 : w103.cell? ⟨gb458, 0, none⟩ = some (.slice A0_0 l0_0.length c0_0) := (xC_ BK458.out 0).trans rfl; have hcz105_1 : w103.cell? ⟨gb458, 1, none⟩ = some (.slice A0_1 l0_1.length c0_1) := (xC_ BK458.out 1).trans rfl; have hfz105_0 := xF_ BK458.out 0; have hfz105_1 := xF_ BK458.out 1) | ((with_reducible refine gate_dst (N := 8) rfl ?_); refine box_event ?hg (N := 8) ?hd (cs := #[.slice none 0 0, .slice none 0 0]) (t := 25) ?hr ?_; (case hd => rfl); (case hg => rfl); (case hr => first | (go_simp; done) | (go_simp; rfl)); intro gb460 hg w106 hbox hb; have hz_ := zq HB (by repeat (first | (with_reducible first | exact Below.refl _ _ | apply yA_ | apply yN_ | apply yD_) | exact Below.refl _ _)) hb; replace hb := below_step hz_ hb; replace HO0_0 := zE HO0_0 hz_ hg hb; replace HO0_1 := zE HO0_1 hz_ hg hb; have BK460 := Aside0.mk hbox; have GW460 := zG HB hz_ hg; have GE460 := zG HB hz_ hg; have NB458_460 := zN BK458 hz_ hg; have NB460_458 := zM BK458 hz_ hg; have NB459_460 := zN BK459 hz_ hg; have NB460_459 := zM BK459 hz_ hg; replace BK458 := zB BK458 hb; replace BK459 := zB BK459 hb; replace HB := zH HB hb; clear hz_; clear hb hbox hg; have hnb107 := NB460_458.out; have hnc107 := NB458_460.out; have hnb108 := NB460_459.out; have hnc108 := NB459_460.out; have hcz109_0 : w106.cell? ⟨gb460, 0, none⟩ = some (.slice none 0 0) := (xC_ BK460.out 0).trans rfl; have hcz109_1 : w106.cell? ⟨gb460, 1, none⟩ = some (.slice none 0 0) := (xC_ BK460.out 1).trans rfl; have hfz109_0 := xF_ BK460.out 0; have hfz109_1 := xF_ BK460.out 1; have hcz110_0 : w106.cell? ⟨gb458, 0, none⟩ = some (.slice A0_0 l0_0.length c0_0) := (xC_ BK458.out 0).trans rfl; have hcz110_1 : w106.cell? ⟨gb458, 1, none⟩ = some (.slice A0_1 l0_1.length c0_1) := (xC_ BK458.out 1).trans rfl; have hfz110_0 := xF_ BK458.out 0; have hfz110_1 := xF_ BK458.out 1) | ((with_reducible refine gate_callee (f := 17) rfl ?_); refine goesL_ (some 17) rfl rfl Try.func17 (by kernel_rfl) rfl #[.agg #[.slice A0_0 l0_0.length c0_0, .slice A0_1 l0_1.length c0_1]] rfl (by (try simp only [List.map_toArray, List.map_cons, List.map_nil]); first | done | rfl) ?_; (with_reducible refine (armadaref01_May.calls k _ _ l0_0 _ _ l0_1 false _ ?side1 ?side2 ?side3 ?side4 A4.out).mono ?_); (case side1 => refine (Kd.V_reads' (e := 9) (base := w.heap.size) (ok := fun k_ => (((((P0_0_ k_ ∨ P0_1_ k_) ∨ w.heap.size ≤ k_) ∧ k_ ≠ gb458) ∧ k_ ≠ gb459) ∧ k_ ≠ gb460)) (n := l0_0.length) (c := c0_0) ?_).2.2; exact (by (with_reducible repeat (first | apply Kd.V_alloc | apply Kd.V_drewN | apply Kd.V_drew)); exact (Kd.V_mono (Kd.V_far (p := ⟨gb460, 1, none⟩) (Kd.V_far (p := ⟨gb460, 0, none⟩) (Kd.V_mono HO0_0.out (fun k_ hk => (⟨hk, hk.2⟩ : _ ∧ k_ ≠ gb460))) (fun _ hk => hk.2) (.slice A0_0 l0_0.length c0_0)) (fun _ hk => hk.2) (.slice A0_1 l0_1.length c0_1)) (fun _ h_ => h_.1)))); (case side2 => exact (Kd.V_reads' HO0_0.out).2.1); (case side3 => refine (Kd.V_reads' (e := 27) (base := w.heap.size) (ok := fun k_ => (((((P0_0_ k_ ∨ P0_1_ k_) ∨ w.heap.size ≤ k_) ∧ k_ ≠ gb458) ∧ k_ ≠ gb459) ∧ k_ ≠ gb460)) (n := l0_1.length) (c := c0_1) ?_).2.2; exact (by (with_reducible repeat (first | apply Kd.V_alloc | apply Kd.V_drewN | apply Kd.V_drew)); exact (Kd.V_mono (Kd.V_far (p := ⟨gb460, 1, none⟩) (Kd.V_far (p := ⟨gb460, 0, none⟩) (Kd.V_mono HO0_1.out (fun k_ hk => (⟨hk, hk.2⟩ : _ ∧ k_ ≠ gb460))) (fun _ hk => hk.2) (.slice A0_0 l0_0.length c0_0)) (fun _ hk => hk.2) (.slice A0_1 l0_1.length c0_1)) (fun _ h_ => h_.1)))); (case side4 => exact (Kd.V_reads' HO0_1.out).2.1); rintro e w111 ⟨rfl, hb⟩; refine ⟨_, rfl, ?_⟩; have hz_ := zq2 HB gb460 (.slice A0_0 l0_0.length c0_0) (.slice A0_1 l0_1.length c0_1) (by repeat (first | (with_reducible first | exact Below.refl _ _ | apply yA_ | apply yN_ | apply yD_) | exact Below.refl _ _)) hb; replace hb := below_step hz_ hb; replace HO0_0 := zF HO0_0 (fun _ hk => hk.2) hb; replace HO0_1 := zF HO0_1 (fun _ hk => hk.2) hb; replace BK458 := zBF BK458 NB458_460 hb; replace BK459 := zBF BK459 NB459_460 hb; replace BK460 := zBP BK460 hb; replace HB := zHF HB GE460 hb; clear hz_; (try clear hb); have hcz112_0 : w111.cell? ⟨gb458, 0, none⟩ = some (.slice A0_0 l0_0.length c0_0) := (xC_ BK458.out 0).trans rfl; have hcz112_1 : w111.cell? ⟨gb458, 1, none⟩ = some (.slice A0_1 l0_1.length c0_1) := (xC_ BK458.out 1).trans rfl; have hfz112_0 := xF_ BK458.out 0; have hfz112_1 := xF_ BK458.out 1; have hcz113_0 : w111.cell? ⟨gb459, 0, none⟩ = some (.slice none 0 0) := (xC_ BK459.out 0).trans rfl; have hcz113_1 : w111.cell? ⟨gb459, 1, none⟩ = some (.slice none 0 0) := (xC_ BK459.out 1).trans rfl; have hfz113_0 := xF_ BK459.out 0; have hfz113_1 := xF_ BK459.out 1))
  refine bodyPost_ret (results_ct rfl _ _ gb459 25 #[.slice A0_0 l0_0.length c0_0, .slice A0_1 l0_1.length c0_1] (0, 0) _ rfl (by (with_reducible repeat (first | apply xN_ | apply xD_ | apply xA_)); refine blk_put (cs := #[.slice A0_0 l0_0.length c0_0, .slice none 0 0]) ?_ 1 _ rfl; refine blk_put (cs := #[.slice none 0 0, .slice none 0 0]) ?_ 0 _ rfl; (with_reducible repeat (first | apply xN_ | apply xD_ | apply xA_)); exact BK459.out) Try.underlying25 rfl (by kernel_rfl)) rfl ?_
  exact ⟨_, _, by first | rfl | (simp [errW_none, errW_some] <;> rfl) | (simp [*, errW_none, errW_some] <;> rfl), by (with_reducible repeat (first | apply Kd.V_alloc | apply Kd.V_drewN | apply Kd.V_drew)); exact Kd.V_mono (Kd.V_far (p := ⟨gb459, 1, none⟩) (Kd.V_far (p := ⟨gb459, 0, none⟩) (Kd.V_mono HO0_0.out (fun k_ hk => (⟨hk, hk.1.2⟩ : _ ∧ k_ ≠ gb459))) (fun _ hk => hk.2) (.slice A0_0 l0_0.length c0_0)) (fun _ hk => hk.2) (.slice A0_1 l0_1.length c0_1)) (fun _ hk => hk.1.1.1.1), by (with_reducible repeat (first | apply Kd.V_alloc | apply Kd.V_drewN | apply Kd.V_drew)); exact Kd.V_mono (Kd.V_far (p := ⟨gb459, 1, none⟩) (Kd.V_far (p := ⟨gb459, 0, none⟩) (Kd.V_mono HO0_1.out (fun k_ hk => (⟨hk, hk.1.2⟩ : _ ∧ k_ ≠ gb459))) (fun _ hk => hk.2) (.slice A0_0 l0_0.length c0_0)) (fun _ hk => hk.2) (.slice A0_1 l0_1.length c0_1)) (fun _ hk => hk.1.1.1.1), by repeat (first | (with_reducible first | exact HB.out | apply yA_ | apply yN_ | apply yD_ | refine yS_ ?_ GE458.out | refine yS_ ?_ GE459.out | refine yS_ ?_ GE460.out) | exact HB.out)⟩
end Go.Proofs.Ytnoafmnjnmlhmaa.P
