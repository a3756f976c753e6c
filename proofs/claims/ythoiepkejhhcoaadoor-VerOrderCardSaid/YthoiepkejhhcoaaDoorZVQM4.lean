/- Printed functions, merged. -/
import Derived.Test.YthoiepkejhhcoaaDoorZVQM0
import Derived.Test.YthoiepkejhhcoaaDoorZVQVCheck
import Derived.Test.YthoiepkejhhcoaaDoorZVQVPre
import Derived.Test.YthoiepkejhhcoaaDoorZVQAl
namespace Go.Proofs.YthoiepkejhhcoaaDoor.P
open Go.RowKit Go.Proofs.YthoiepkejhhcoaaDoorW.PrintWords Go.Proofs.YthoiepkejhhcoaaDoorW.PrintLast Go.Proofs.YthoiepkejhhcoaaDoorW.PrintMore
attribute [local go_sem] max2_int min2_int max_two min_two max_three min_three max_four min_four   -- for this text's walks alone
set_option linter.unusedVariables false
set_option linter.unusedSimpArgs false
def ver_Compare.j0 : Nat → Bool → Int → Int → Int → ByteArray → ByteArray → Int → Int → Int → ByteArray → ByteArray → Option (Int)
 | 0, _, _, _, _, _, _, _, _, _, _, _ => none
 | k + 1, x12, x157000, x157001, x157002, x157003, x157004, x158000, x158001, x158002, x158003, x158004 => if x12 = true then (some 0) else ((cmp_Compare_int.f x157000 x158000).bind fun t160 => ((cmp_Compare_int.f x157001 x158001).bind fun t161 => ((cmp_Compare_int.f x157002 x158002).bind fun t162 => ((ver_byPre.f x157003 x158003).bind fun t163 => ((cmp_Or_int.f k (([t160, t161, t162, t163] : List Int))).bind fun t167 => (some t167))))))
def ver_Compare.f (k : Nat) (a0_0 : Int) (a0_1 : Int) (a0_2 : Int) (a0_3 : ByteArray) (a0_4 : ByteArray) (a1_0 : Int) (a1_1 : Int) (a1_2 : Int) (a1_3 : ByteArray) (a1_4 : ByteArray) : Option (Int) := (ver_Check.f a0_0 a0_1 a0_2 a0_3 a0_4).bind fun t158 => (if t158 = true then ((ver_Check.f a1_0 a1_1 a1_2 a1_3 a1_4).bind fun t159 => (ver_Compare.j0 k (!t159) a0_0 a0_1 a0_2 a0_3 a0_4 a1_0 a1_1 a1_2 a1_3 a1_4)) else (ver_Compare.j0 k true a0_0 a0_1 a0_2 a0_3 a0_4 a1_0 a1_1 a1_2 a1_3 a1_4))
theorem ver_Compare.mono_l : ∀ k, (∀ y0 y1 y2 y3 y4 y5 y6 y7 y8 y9 y10, LeO (ver_Compare.j0 k y0 y1 y2 y3 y4 y5 y6 y7 y8 y9 y10) (ver_Compare.j0 (k + 1) y0 y1 y2 y3 y4 y5 y6 y7 y8 y9 y10))
 | 0 => fun _ _ _ _ _ _ _ _ _ _ _ r h => by simp [ver_Compare.j0] at h
 | k + 1 => by
  have ih0 := ver_Compare.mono_l k
  ·intro y0 y1 y2 y3 y4 y5 y6 y7 y8 y9 y10
   unfold ver_Compare.j0
   repeat' first
   | (with_reducible exact ih0 _ _ _ _ _ _ _ _ _ _ _)
   | (with_reducible exact cmp_Or_int.mono _ _)
   | (with_reducible exact LeO.refl _)
   | (with_reducible exact LeO.none _)
   | (with_reducible refine LeO.ite ?_ ?_)
   | (with_reducible refine LeO.bind ?_ (fun _ => ?_))
   | exact ih0 _ _ _ _ _ _ _ _ _ _ _
   | exact cmp_Or_int.mono _ _
   | exact LeO.none _
   | refine LeO.ite ?_ ?_
   | refine LeO.bind ?_ (fun _ => ?_)
theorem ver_Compare.mono : ∀ a0 a1 a2 a3 a4 a5 a6 a7 a8 a9 k, LeO (ver_Compare.f k a0 a1 a2 a3 a4 a5 a6 a7 a8 a9) (ver_Compare.f (k + 1) a0 a1 a2 a3 a4 a5 a6 a7 a8 a9) := by
 intro a0 a1 a2 a3 a4 a5 a6 a7 a8 a9 k
 have ih0 := ver_Compare.mono_l k
 unfold ver_Compare.f
 repeat' first
   | (with_reducible exact ih0 _ _ _ _ _ _ _ _ _ _ _)
   | (with_reducible exact cmp_Or_int.mono _ _)
   | (with_reducible exact LeO.refl _)
   | (with_reducible exact LeO.none _)
   | (with_reducible refine LeO.ite ?_ ?_)
   | (with_reducible refine LeO.bind ?_ (fun _ => ?_))
   | exact ih0 _ _ _ _ _ _ _ _ _ _ _
   | exact cmp_Or_int.mono _ _
   | exact LeO.none _
   | refine LeO.ite ?_ ?_
   | refine LeO.bind ?_ (fun _ => ?_)
def ver_Compare.T3 : Bool × List (List Nat × List Nat) := (true, [([], []), ([0], [0]), ([], []), ([2], [2]), ([1, 3], [1, 3]), ([], []), ([5], [5]), ([], []), ([7], [7]), ([6, 8, 4], [6, 8]), ([], []), ([10], [10]), ([], []), ([12], [12]), ([11, 13, 9], [11, 13]), ([], []), ([15], [15]), ([], []), ([17], [17]), ([16, 18, 14], [16, 18]), ([4, 9, 14, 19], [4, 9, 14, 19]), ([20, 19], [20]), ([21, 21, 0, 1, 2, 3, 4, 5, 6, 7, 8, 9, 10, 11, 12, 13, 14, 15, 16, 17, 18, 19, 20, 21], [21])])
def ver_Compare.B3 : List Nat := [0, 1, 0, 4, 15, 0, 32, 0, 128, 511, 0, 1024, 0, 4096, 16383, 0, 32768, 0, 131072, 524287, 1048575, 2097151, 4194303]
theorem ver_Compare.tab3 : rtab .any (opsOf Tryd.f19 3) = ver_Compare.T3 := by kernel_rfl
theorem ver_Compare.bits3 : waitsOk ver_Compare.T3.2 ver_Compare.B3 = true := by kernel_rfl
set_option maxHeartbeats 8000000 in
set_option maxRecDepth 100000 in
theorem ver_Compare.calls (k : Nat) (a0_0 : Int) (a0_1 : Int) (a0_2 : Int) (a0_3 : ByteArray) (a0_4 : ByteArray) (a1_0 : Int) (a1_1 : Int) (a1_2 : Int) (a1_3 : ByteArray) (a1_4 : ByteArray) (r : Int) (w : World) (h : ver_Compare.f k a0_0 a0_1 a0_2 a0_3 a0_4 a1_0 a1_1 a1_2 a1_3 a1_4 = some r) :
  Calls Tryd.prog 19 #[.agg #[.int .i64 a0_0, .int .i64 a0_1, .int .i64 a0_2, .string a0_3, .string a0_4], .agg #[.int .i64 a1_0, .int .i64 a1_1, .int .i64 a1_2, .string a1_3, .string a1_4]] w fun e w' => e = .returned (.int .i64 r) ∧ Below w.heap.size w w' := by
 have hu23 := Tryd.underlying23
 have HB := Aside0.mk (Below.refl w.heap.size w)
 have H : ((ver_Check.f a0_0 a0_1 a0_2 a0_3 a0_4).bind fun t158 => (if t158 = true then ((ver_Check.f a1_0 a1_1 a1_2 a1_3 a1_4).bind fun t159 => (ver_Compare.j0 k (!t159) a0_0 a0_1 a0_2 a0_3 a0_4 a1_0 a1_1 a1_2 a1_3 a1_4)) else (ver_Compare.j0 k true a0_0 a0_1 a0_2 a0_3 a0_4 a1_0 a1_1 a1_2 a1_3 a1_4))) = some r := h
 clear h
 have HC3 := Aside0.mk H
 clear H
 go_enter Tryd.func19, Tryd.ntmps19
 go_upto_region 1 with (first | ((with_reducible refine gate_dst (N := 2) rfl ?_); refine box_event ?hg (N := 2) ?hd (cs := #[.int .i64 a0_0, .int .i64 a0_1, .int .i64 a0_2, .string a0_3, .string a0_4]) (t := 23) ?hr ?_; (case hd => rfl); (case hg => rfl); (case hr => first | (go_simp; done) | (go_simp; rfl)); intro gb156 hg w4 hbox hb; have n0_ := Aside0.mk (below_step (by repeat (first | (with_reducible first | exact HB.out | apply yA_ | apply yN_ | apply yD_) | exact HB.out)) hb); have n1_ := Aside0.mk (hbox); have n2_ := Aside0.mk ((by rw [hg]; exact (below_size (by repeat (first | (with_reducible first | exact HB.out | apply yA_ | apply yN_ | apply yD_) | exact HB.out))) : w.heap.size ≤ gb156)); have n3_ := Aside0.mk ((by rw [hg]; exact (below_size (by repeat (first | (with_reducible first | exact HB.out | apply yA_ | apply yN_ | apply yD_) | exact HB.out))) : w.heap.size ≤ gb156)); clear HB; have HB := n0_; have BK156 := n1_; have GW156 := n2_; have GE156 := n3_; clear n0_ n1_ n2_ n3_; clear hb hbox hg) | ((with_reducible refine gate_dst (N := 3) rfl ?_); refine box_event ?hg (N := 3) ?hd (cs := #[.int .i64 a1_0, .int .i64 a1_1, .int .i64 a1_2, .string a1_3, .string a1_4]) (t := 23) ?hr ?_; (case hd => rfl); (case hg => rfl); (case hr => first | (go_simp; done) | (go_simp; rfl)); intro gb157 hg w5 hbox hb; have n0_ := Aside0.mk (blk_below (g := gb156) (o := .cells #[.int .i64 a0_0, .int .i64 a0_1, .int .i64 a0_2, .string a0_3, .string a0_4] 23 (0, 0)) (by (with_reducible repeat (first | apply xN_ | apply xD_ | apply xA_)); exact BK156.out) hb); have n1_ := Aside0.mk (below_step (by repeat (first | (with_reducible first | exact HB.out | apply yA_ | apply yN_ | apply yD_ | refine yS_ ?_ GE156.out) | exact HB.out)) hb); have n2_ := Aside0.mk (hbox); have n3_ := Aside0.mk ((by rw [hg]; exact (below_size (by repeat (first | (with_reducible first | exact HB.out | apply yA_ | apply yN_ | apply yD_ | refine yS_ ?_ GE156.out) | exact HB.out))) : w.heap.size ≤ gb157)); have n4_ := Aside0.mk ((by rw [hg]; exact (below_size (by repeat (first | (with_reducible first | exact HB.out | apply yA_ | apply yN_ | apply yD_ | refine yS_ ?_ GE156.out) | exact HB.out))) : w.heap.size ≤ gb157)); have n5_ := Aside0.mk ((by rw [hg]; exact Nat.ne_of_lt (blk_lt (g := gb156) (o := .cells #[.int .i64 a0_0, .int .i64 a0_1, .int .i64 a0_2, .string a0_3, .string a0_4] 23 (0, 0)) (by (with_reducible repeat (first | apply xN_ | apply xD_ | apply xA_)); exact BK156.out)) : gb156 ≠ gb157)); have n6_ := Aside0.mk ((by rw [hg]; exact Nat.ne_of_gt (blk_lt (g := gb156) (o := .cells #[.int .i64 a0_0, .int .i64 a0_1, .int .i64 a0_2, .string a0_3, .string a0_4] 23 (0, 0)) (by (with_reducible repeat (first | apply xN_ | apply xD_ | apply xA_)); exact BK156.out)) : gb157 ≠ gb156)); clear BK156; clear HB; have BK156 := n0_; have HB := n1_; have BK157 := n2_; have GW157 := n3_; have GE157 := n4_; have NB156_157 := n5_; have NB157_156 := n6_; clear n0_ n1_ n2_ n3_ n4_ n5_ n6_; clear hb hbox hg))
 (try simp only [Act.put, List.setIfInBounds_toArray, List.set_cons_zero, List.set_cons_succ])
 go_cut [12] (fun v12 wc => ∃ (kq : Nat) (x12_2 : Bool), v12 = .bool x12_2 ∧ Aside0 (ver_Compare.j0 kq x12_2 a0_0 a0_1 a0_2 a0_3 a0_4 a1_0 a1_1 a1_2 a1_3 a1_4 = some r) ∧ Aside0 (kq ≤ k) ∧ Aside0 (wc.heap[gb156]? = some (.cells #[.int .i64 a0_0, .int .i64 a0_1, .int .i64 a0_2, .string a0_3, .string a0_4] 23 (0, 0))) ∧ Aside0 (wc.heap[gb157]? = some (.cells #[.int .i64 a1_0, .int .i64 a1_1, .int .i64 a1_2, .string a1_3, .string a1_4] 23 (0, 0))) ∧ Aside0 (Below w.heap.size w wc))
 case first =>
  have H := HC3.out
  clear HC3
  replace H := Option.bind_eq_some_iff.mp H
  obtain ⟨t158, A60, H⟩ := H
  replace H : (if t158 = true then ((ver_Check.f a1_0 a1_1 a1_2 a1_3 a1_4).bind fun t159 => (ver_Compare.j0 k (!t159) a0_0 a0_1 a0_2 a0_3 a0_4 a1_0 a1_1 a1_2 a1_3 a1_4)) else (ver_Compare.j0 k true a0_0 a0_1 a0_2 a0_3 a0_4 a1_0 a1_1 a1_2 a1_3 a1_4)) = some r := H
  have A6 := Aside0.mk A60
  clear A60
  by_cases c7 : t158 = true
  ·subst c7
   have H1 : ((ver_Check.f a1_0 a1_1 a1_2 a1_3 a1_4).bind fun t159 => (ver_Compare.j0 k (!t159) a0_0 a0_1 a0_2 a0_3 a0_4 a1_0 a1_1 a1_2 a1_3 a1_4)) = some r := by rw [if_pos rfl] at H; exact H
   clear H
   have H := H1
   clear H1
   replace H := Option.bind_eq_some_iff.mp H
   obtain ⟨t159, A80, H⟩ := H
   replace H : (ver_Compare.j0 k (!t159) a0_0 a0_1 a0_2 a0_3 a0_4 a1_0 a1_1 a1_2 a1_3 a1_4) = some r := H
   have A8 := Aside0.mk A80
   clear A80
   have H' := Aside0.mk H
   clear H
   have hnb9 := NB156_157.out
   have hnc9 := NB157_156.out
   have hcz10_0 : w5.cell? ⟨gb156, 0, none⟩ = some (.int .i64 a0_0) := (xC_ BK156.out 0).trans rfl
   have hcz10_1 : w5.cell? ⟨gb156, 1, none⟩ = some (.int .i64 a0_1) := (xC_ BK156.out 1).trans rfl
   have hcz10_2 : w5.cell? ⟨gb156, 2, none⟩ = some (.int .i64 a0_2) := (xC_ BK156.out 2).trans rfl
   have hcz10_3 : w5.cell? ⟨gb156, 3, none⟩ = some (.string a0_3) := (xC_ BK156.out 3).trans rfl
   have hcz10_4 : w5.cell? ⟨gb156, 4, none⟩ = some (.string a0_4) := (xC_ BK156.out 4).trans rfl
   have hfz10_0 := xF_ BK156.out 0
   have hfz10_1 := xF_ BK156.out 1
   have hfz10_2 := xF_ BK156.out 2
   have hfz10_3 := xF_ BK156.out 3
   have hfz10_4 := xF_ BK156.out 4
   go_wp2_with (first | ((with_reducible refine gate_callee (f := 13) rfl ?_); refine goesL_ (some 6) rfl rfl Tryd.func13 (by kernel_rfl) rfl #[.agg #[.int .i64 a0_0, .int .i64 a0_1, .int .i64 a0_2, .string a0_3, .string a0_4]] rfl (by (try simp only [List.map_toArray, List.map_cons, List.map_nil]); first | done | rfl) ?_; (with_reducible refine (ver_Check.calls a0_0 a0_1 a0_2 a0_3 a0_4 true _ A6.out).mono ?_); rintro e w11 ⟨rfl, hb⟩; refine ⟨_, rfl, ?_⟩; have n0_ := Aside0.mk (blk_below (g := gb156) (o := .cells #[.int .i64 a0_0, .int .i64 a0_1, .int .i64 a0_2, .string a0_3, .string a0_4] 23 (0, 0)) (by (with_reducible repeat (first | apply xN_ | apply xD_ | apply xA_)); exact BK156.out) hb); have n1_ := Aside0.mk (blk_below (g := gb157) (o := .cells #[.int .i64 a1_0, .int .i64 a1_1, .int .i64 a1_2, .string a1_3, .string a1_4] 23 (0, 0)) (by (with_reducible repeat (first | apply xN_ | apply xD_ | apply xA_)); exact BK157.out) hb); have n2_ := Aside0.mk (below_step (by repeat (first | (with_reducible first | exact HB.out | apply yA_ | apply yN_ | apply yD_ | refine yS_ ?_ GE156.out | refine yS_ ?_ GE157.out) | exact HB.out)) hb); clear BK156; clear BK157; clear HB; have BK156 := n0_; have BK157 := n1_; have HB := n2_; clear n0_ n1_ n2_; (try clear hb); (try clear hb2); (try clear hk); (try clear hi); have hcz12_0 : w11.cell? ⟨gb157, 0, none⟩ = some (.int .i64 a1_0) := (xC_ BK157.out 0).trans rfl; have hcz12_1 : w11.cell? ⟨gb157, 1, none⟩ = some (.int .i64 a1_1) := (xC_ BK157.out 1).trans rfl; have hcz12_2 : w11.cell? ⟨gb157, 2, none⟩ = some (.int .i64 a1_2) := (xC_ BK157.out 2).trans rfl; have hcz12_3 : w11.cell? ⟨gb157, 3, none⟩ = some (.string a1_3) := (xC_ BK157.out 3).trans rfl; have hcz12_4 : w11.cell? ⟨gb157, 4, none⟩ = some (.string a1_4) := (xC_ BK157.out 4).trans rfl; have hfz12_0 := xF_ BK157.out 0; have hfz12_1 := xF_ BK157.out 1; have hfz12_2 := xF_ BK157.out 2; have hfz12_3 := xF_ BK157.out 3; have hfz12_4 := xF_ BK157.out 4) | (go_at_call 13; (with_reducible refine (ver_Check.calls a1_0 a1_1 a1_2 a1_3 a1_4 t159 _ A8.out).mono ?_); rintro e w13 ⟨rfl, hb⟩; have n0_ := Aside0.mk (blk_below (g := gb156) (o := .cells #[.int .i64 a0_0, .int .i64 a0_1, .int .i64 a0_2, .string a0_3, .string a0_4] 23 (0, 0)) (by (with_reducible repeat (first | apply xN_ | apply xD_ | apply xA_)); exact BK156.out) hb); have n1_ := Aside0.mk (blk_below (g := gb157) (o := .cells #[.int .i64 a1_0, .int .i64 a1_1, .int .i64 a1_2, .string a1_3, .string a1_4] 23 (0, 0)) (by (with_reducible repeat (first | apply xN_ | apply xD_ | apply xA_)); exact BK157.out) hb); have n2_ := Aside0.mk (below_step (by repeat (first | (with_reducible first | exact HB.out | apply yA_ | apply yN_ | apply yD_ | refine yS_ ?_ GE156.out | refine yS_ ?_ GE157.out) | exact HB.out)) hb); clear BK156; clear BK157; clear HB; have BK156 := n0_; have BK157 := n1_; have HB := n2_; clear n0_ n1_ n2_; (try clear hb); (try clear hb2); (try clear hk); (try clear hi)))
   go_meet
   case rel => exact ⟨_, (!t159), (by first | rfl | (simp; done) | (simp [*]; done)), H', ⟨by first | omega | exact Nat.le_refl _⟩, ⟨by (with_reducible repeat (first | apply xN_ | apply xD_ | apply xA_)); exact BK156.out⟩, ⟨by (with_reducible repeat (first | apply xN_ | apply xD_ | apply xA_)); exact BK157.out⟩, ⟨by repeat (first | (with_reducible first | exact HB.out | apply yA_ | apply yN_ | apply yD_ | refine yS_ ?_ GE156.out | refine yS_ ?_ GE157.out) | exact HB.out)⟩⟩
  ·replace c7 := Bool.eq_false_iff.mpr c7
   subst c7
   have H1 : (ver_Compare.j0 k true a0_0 a0_1 a0_2 a0_3 a0_4 a1_0 a1_1 a1_2 a1_3 a1_4) = some r := by rw [if_neg (show ¬ (false = true) by decide)] at H; exact H
   clear H
   have H := H1
   clear H1
   have H' := Aside0.mk H
   clear H
   have hnb14 := NB156_157.out
   have hnc14 := NB157_156.out
   have hcz15_0 : w5.cell? ⟨gb156, 0, none⟩ = some (.int .i64 a0_0) := (xC_ BK156.out 0).trans rfl
   have hcz15_1 : w5.cell? ⟨gb156, 1, none⟩ = some (.int .i64 a0_1) := (xC_ BK156.out 1).trans rfl
   have hcz15_2 : w5.cell? ⟨gb156, 2, none⟩ = some (.int .i64 a0_2) := (xC_ BK156.out 2).trans rfl
   have hcz15_3 : w5.cell? ⟨gb156, 3, none⟩ = some (.string a0_3) := (xC_ BK156.out 3).trans rfl
   have hcz15_4 : w5.cell? ⟨gb156, 4, none⟩ = some (.string a0_4) := (xC_ BK156.out 4).trans rfl
   have hfz15_0 := xF_ BK156.out 0
   have hfz15_1 := xF_ BK156.out 1
   have hfz15_2 := xF_ BK156.out 2
   have hfz15_3 := xF_ BK156.out 3
   have hfz15_4 := xF_ BK156.out 4
   go_wp2_with (first | ((with_reducible refine gate_callee (f := 13) rfl ?_); refine goesL_ (some 6) rfl rfl Tryd.func13 (by kernel_rfl) rfl #[.agg #[.int .i64 a0_0, .int .i64 a0_1, .int .i64 a0_2, .string a0_3, .string a0_4]] rfl (by (try simp only [List.map_toArray, List.map_cons, List.map_nil]); first | done | rfl) ?_; (with_reducible refine (ver_Check.calls a0_0 a0_1 a0_2 a0_3 a0_4 false _ A6.out).mono ?_); rintro e w16 ⟨rfl, hb⟩; refine ⟨_, rfl, ?_⟩; have n0_ := Aside0.mk (blk_below (g := gb156) (o := .cells #[.int .i64 a0_0, .int .i64 a0_1, .int .i64 a0_2, .string a0_3, .string a0_4] 23 (0, 0)) (by (with_reducible repeat (first | apply xN_ | apply xD_ | apply xA_)); exact BK156.out) hb); have n1_ := Aside0.mk (blk_below (g := gb157) (o := .cells #[.int .i64 a1_0, .int .i64 a1_1, .int .i64 a1_2, .string a1_3, .string a1_4] 23 (0, 0)) (by (with_reducible repeat (first | apply xN_ | apply xD_ | apply xA_)); exact BK157.out) hb); have n2_ := Aside0.mk (below_step (by repeat (first | (with_reducible first | exact HB.out | apply yA_ | apply yN_ | apply yD_ | refine yS_ ?_ GE156.out | refine yS_ ?_ GE157.out) | exact HB.out)) hb); clear BK156; clear BK157; clear HB; have BK156 := n0_; have BK157 := n1_; have HB := n2_; clear n0_ n1_ n2_; (try clear hb); (try clear hb2); (try clear hk); (try clear hi)))
   go_meet
   case rel => exact ⟨_, (true), (by first | rfl | (simp; done) | (simp [*]; done)), H', ⟨by first | omega | exact Nat.le_refl _⟩, ⟨by (with_reducible repeat (first | apply xN_ | apply xD_ | apply xA_)); exact BK156.out⟩, ⟨by (with_reducible repeat (first | apply xN_ | apply xD_ | apply xA_)); exact BK157.out⟩, ⟨by repeat (first | (with_reducible first | exact HB.out | apply yA_ | apply yN_ | apply yD_ | refine yS_ ?_ GE156.out | refine yS_ ?_ GE157.out) | exact HB.out)⟩⟩
 case rest =>
  clear HC3
  (try clear c1); (try clear p2); (try clear c7); (try clear c9); (try clear c13); (try clear c14); (try clear hcz10_0); (try clear hcz10_1); (try clear hcz10_2)
  (try clear hcz10_3); (try clear hcz10_4); (try clear hcz12_0); (try clear hcz12_1); (try clear hcz12_2); (try clear hcz12_3); (try clear hcz12_4); (try clear hcz15_0)
  (try clear hcz15_1); (try clear hcz15_2); (try clear hcz15_3); (try clear hcz15_4); (try clear hfz10_0); (try clear hfz10_1); (try clear hfz10_2); (try clear hfz10_3)
  (try clear hfz10_4); (try clear hfz12_0); (try clear hfz12_1); (try clear hfz12_2); (try clear hfz12_3); (try clear hfz12_4); (try clear hfz15_0); (try clear hfz15_1)
  (try clear hfz15_2); (try clear hfz15_3); (try clear hfz15_4)
  obtain ⟨kq, x12_2, rfl, HA, HJ2, BK156, BK157, HB⟩ := hcut
  cases kq with
  | zero => exact absurd HA.out (by simp [ver_Compare.j0])
  | succ kj2 =>
   have H := HA.out
   clear HA
   simp only [ver_Compare.j0] at H
   by_cases c17 : x12_2 = true
   ·subst c17
    have H1 : (some 0) = some r := by rw [if_pos rfl] at H; exact H
    clear H
    have H := H1
    clear H1
    obtain rfl := Option.some.inj H
    go_wp2
    go_ret
    exact ⟨by first | rfl | (simp [errW_none, errW_some] <;> rfl) | (simp [*, errW_none, errW_some] <;> rfl), by repeat (first | (with_reducible first | exact HB.out | apply yA_ | apply yN_ | apply yD_ | refine yS_ ?_ GE156.out | refine yS_ ?_ GE157.out) | exact HB.out)⟩
   ·replace c17 := Bool.eq_false_iff.mpr c17
    subst c17
    have H1 : ((cmp_Compare_int.f a0_0 a1_0).bind fun t160 => ((cmp_Compare_int.f a0_1 a1_1).bind fun t161 => ((cmp_Compare_int.f a0_2 a1_2).bind fun t162 => ((ver_byPre.f a0_3 a1_3).bind fun t163 => ((cmp_Or_int.f kj2 (([t160, t161, t162, t163] : List Int))).bind fun t167 => (some t167)))))) = some r := by rw [if_neg (show ¬ (false = true) by decide)] at H; exact H
    clear H
    have H := H1
    clear H1
    replace H := Option.bind_eq_some_iff.mp H
    obtain ⟨t160, A180, H⟩ := H
    replace H : ((cmp_Compare_int.f a0_1 a1_1).bind fun t161 => ((cmp_Compare_int.f a0_2 a1_2).bind fun t162 => ((ver_byPre.f a0_3 a1_3).bind fun t163 => ((cmp_Or_int.f kj2 (([t160, t161, t162, t163] : List Int))).bind fun t167 => (some t167))))) = some r := H
    have A18 := Aside0.mk A180
    clear A180
    replace H := Option.bind_eq_some_iff.mp H
    obtain ⟨t161, A190, H⟩ := H
    replace H : ((cmp_Compare_int.f a0_2 a1_2).bind fun t162 => ((ver_byPre.f a0_3 a1_3).bind fun t163 => ((cmp_Or_int.f kj2 (([t160, t161, t162, t163] : List Int))).bind fun t167 => (some t167)))) = some r := H
    have A19 := Aside0.mk A190
    clear A190
    replace H := Option.bind_eq_some_iff.mp H
    obtain ⟨t162, A200, H⟩ := H
    replace H : ((ver_byPre.f a0_3 a1_3).bind fun t163 => ((cmp_Or_int.f kj2 (([t160, t161, t162, t163] : List Int))).bind fun t167 => (some t167))) = some r := H
    have A20 := Aside0.mk A200
    clear A200
    replace H := Option.bind_eq_some_iff.mp H
    obtain ⟨t163, A210, H⟩ := H
    replace H : ((cmp_Or_int.f kj2 (([t160, t161, t162, t163] : List Int))).bind fun t167 => (some t167)) = some r := H
    have A21 := Aside0.mk A210
    clear A210
    obtain ⟨y164, hy164⟩ : ∃ y_ : List Int, y_ = (([t160, t161, t162, t163] : List Int)) := ⟨_, rfl⟩
    replace H : ((cmp_Or_int.f kj2 y164).bind fun t167 => (some t167)) = some r := by first | (rw [hy164]; with_reducible exact H) | (have H2_ := (Option.bind_some _ _).symm.trans H; rw [hy164]; with_reducible exact H2_) | (have H2_ := (Option.bind_some _ _).symm.trans H; with_reducible exact H2_) | with_reducible exact H | (rw [hy164]; exact H) | exact H
    have Ny164 := Aside0.mk hy164
    clear hy164
    replace H := Option.bind_eq_some_iff.mp H
    obtain ⟨t167, A220, H⟩ := H
    replace H : (some t167) = some r := H
    have A22 := Aside0.mk A220
    clear A220
    obtain rfl := Option.some.inj H
    try go_wp2
    have n0_ := Aside0.mk (xD_ BK156.out)
    have n1_ := Aside0.mk (xD_ BK157.out)
    have n2_ := Aside0.mk (yD_ HB.out)
    clear BK156
    clear BK157
    clear HB
    have BK156 := n0_
    have BK157 := n1_
    have HB := n2_
    clear n0_ n1_ n2_
    refine start_ (n := 23) (S := fun w' => w'.cell? ⟨gb156, 0, none⟩ = some (.int .i64 a0_0) ∧ w'.cell? ⟨gb156, 1, none⟩ = some (.int .i64 a0_1) ∧ w'.cell? ⟨gb156, 2, none⟩ = some (.int .i64 a0_2) ∧ w'.cell? ⟨gb156, 3, none⟩ = some (.string a0_3) ∧ w'.cell? ⟨gb156, 4, none⟩ = some (.string a0_4) ∧ w'.cell? ⟨gb157, 0, none⟩ = some (.int .i64 a1_0) ∧ w'.cell? ⟨gb157, 1, none⟩ = some (.int .i64 a1_1) ∧ w'.cell? ⟨gb157, 2, none⟩ = some (.int .i64 a1_2) ∧ w'.cell? ⟨gb157, 3, none⟩ = some (.string a1_3) ∧ w'.cell? ⟨gb157, 4, none⟩ = some (.string a1_4)) (ds := []) #[false, false, false, false, false, false, false, false, false, false, false, false, false, false, false, false, false, false, false, false, false, false, false] (by kernel_rfl) rfl rfl ⟨(xC_ BK156.out 0).trans rfl, (xC_ BK156.out 1).trans rfl, (xC_ BK156.out 2).trans rfl, (xC_ BK156.out 3).trans rfl, (xC_ BK156.out 4).trans rfl, (xC_ BK157.out 0).trans rfl, (xC_ BK157.out 1).trans rfl, (xC_ BK157.out 2).trans rfl, (xC_ BK157.out 3).trans rfl, (xC_ BK157.out 4).trans rfl⟩ (fun hHeld => ?_); refine with_tabW ver_Compare.tab3 ver_Compare.bits3 (fun HT_ HW_ => ?_)
    generalize wc.drew = w23 at BK156 BK157 HB hHeld ⊢
    refine pure_ (i := 0) (N := some 13) (v := ?_) (a' := ?_) #[true, false, false, false, false, false, false, false, false, false, false, false, false, false, false, false, false, false, false, false, false, false, false] rfl rfl (any_of HT_.out (by kernel_rfl)) (fun _ _ _ h => h) (Or.inl ⟨by rfl, ?_⟩) ?_ ?_
    rotate_left
    ·intro w'
     go_simp
     with_reducible rfl
    rotate_left
    ·simp only [Act.put, List.setIfInBounds_toArray, List.set_cons_zero, List.set_cons_succ, i64_w, i32_w]
     rfl
    refine pure_ (i := 2) (N := some 15) (v := ?_) (a' := ?_) #[true, false, true, false, false, false, false, false, false, false, false, false, false, false, false, false, false, false, false, false, false, false, false] rfl rfl (any_of HT_.out (by kernel_rfl)) (fun _ _ _ h => h) (Or.inl ⟨by rfl, ?_⟩) ?_ ?_
    rotate_left
    ·intro w'
     go_simp
     with_reducible rfl
    rotate_left
    ·simp only [Act.put, List.setIfInBounds_toArray, List.set_cons_zero, List.set_cons_succ, i64_w, i32_w]
     rfl
    refine pure_ (i := 5) (N := some 18) (v := ?_) (a' := ?_) #[true, false, true, false, false, true, false, false, false, false, false, false, false, false, false, false, false, false, false, false, false, false, false] rfl rfl (any_of HT_.out (by kernel_rfl)) (fun _ _ _ h => h) (Or.inl ⟨by rfl, ?_⟩) ?_ ?_
    rotate_left
    ·intro w'
     go_simp
     with_reducible rfl
    rotate_left
    ·simp only [Act.put, List.setIfInBounds_toArray, List.set_cons_zero, List.set_cons_succ, i64_w, i32_w]
     rfl
    refine pure_ (i := 7) (N := some 20) (v := ?_) (a' := ?_) #[true, false, true, false, false, true, false, true, false, false, false, false, false, false, false, false, false, false, false, false, false, false, false] rfl rfl (any_of HT_.out (by kernel_rfl)) (fun _ _ _ h => h) (Or.inl ⟨by rfl, ?_⟩) ?_ ?_
    rotate_left
    ·intro w'
     go_simp
     with_reducible rfl
    rotate_left
    ·simp only [Act.put, List.setIfInBounds_toArray, List.set_cons_zero, List.set_cons_succ, i64_w, i32_w]
     rfl
    refine pure_ (i := 10) (N := some 23) (v := ?_) (a' := ?_) #[true, false, true, false, false, true, false, true, false, false, true, false, false, false, false, false, false, false, false, false, false, false, false] rfl rfl (any_of HT_.out (by kernel_rfl)) (fun _ _ _ h => h) (Or.inl ⟨by rfl, ?_⟩) ?_ ?_
    rotate_left
    ·intro w'
     go_simp
     with_reducible rfl
    rotate_left
    ·simp only [Act.put, List.setIfInBounds_toArray, List.set_cons_zero, List.set_cons_succ, i64_w, i32_w]
     rfl
    refine pure_ (i := 12) (N := some 25) (v := ?_) (a' := ?_) #[true, false, true, false, false, true, false, true, false, false, true, false, true, false, false, false, false, false, false, false, false, false, false] rfl rfl (any_of HT_.out (by kernel_rfl)) (fun _ _ _ h => h) (Or.inl ⟨by rfl, ?_⟩) ?_ ?_
    rotate_left
    ·intro w'
     go_simp
     with_reducible rfl
    rotate_left
    ·simp only [Act.put, List.setIfInBounds_toArray, List.set_cons_zero, List.set_cons_succ, i64_w, i32_w]
     rfl
    refine pure_ (i := 15) (N := some 28) (v := ?_) (a' := ?_) #[true, false, true, false, false, true, false, true, false, false, true, false, true, false, false, true, false, false, false, false, false, false, false] rfl rfl (any_of HT_.out (by kernel_rfl)) (fun _ _ _ h => h) (Or.inl ⟨by rfl, ?_⟩) ?_ ?_
    rotate_left
    ·intro w'
     go_simp
     with_reducible rfl
    rotate_left
    ·simp only [Act.put, List.setIfInBounds_toArray, List.set_cons_zero, List.set_cons_succ, i64_w, i32_w]
     rfl
    refine pure_ (i := 17) (N := some 30) (v := ?_) (a' := ?_) #[true, false, true, false, false, true, false, true, false, false, true, false, true, false, false, true, false, true, false, false, false, false, false] rfl rfl (any_of HT_.out (by kernel_rfl)) (fun _ _ _ h => h) (Or.inl ⟨by rfl, ?_⟩) ?_ ?_
    rotate_left
    ·intro w'
     go_simp
     with_reducible rfl
    rotate_left
    ·simp only [Act.put, List.setIfInBounds_toArray, List.set_cons_zero, List.set_cons_succ, i64_w, i32_w]
     rfl
    refine take_ (i := 1) (N := some 14) (v := ?_) (a' := ?_) #[true, true, true, false, false, true, false, true, false, false, true, false, true, false, false, true, false, true, false, false, false, false, false] rfl rfl (take_ofW HT_.out HW_.out (by kernel_rfl)) (fun _ _ _ h => h) (Or.inl ⟨by rfl, ?_⟩) hHeld ?_ ?_
    rotate_left
    ·rintro w' ⟨s0, s1, s2, s3, s4, s5, s6, s7, s8, s9⟩
     go_simp
     with_reducible rfl
    rotate_left
    ·simp only [Act.put, List.setIfInBounds_toArray, List.set_cons_zero, List.set_cons_succ, i64_w, i32_w]
     rfl
    refine take_ (i := 3) (N := some 16) (v := ?_) (a' := ?_) #[true, true, true, true, false, true, false, true, false, false, true, false, true, false, false, true, false, true, false, false, false, false, false] rfl rfl (take_ofW HT_.out HW_.out (by kernel_rfl)) (fun _ _ _ h => h) (Or.inl ⟨by rfl, ?_⟩) hHeld ?_ ?_
    rotate_left
    ·rintro w' ⟨s0, s1, s2, s3, s4, s5, s6, s7, s8, s9⟩
     go_simp
     with_reducible rfl
    rotate_left
    ·simp only [Act.put, List.setIfInBounds_toArray, List.set_cons_zero, List.set_cons_succ, i64_w, i32_w]
     rfl
    refine take_ (i := 6) (N := some 19) (v := ?_) (a' := ?_) #[true, true, true, true, false, true, true, true, false, false, true, false, true, false, false, true, false, true, false, false, false, false, false] rfl rfl (take_ofW HT_.out HW_.out (by kernel_rfl)) (fun _ _ _ h => h) (Or.inl ⟨by rfl, ?_⟩) hHeld ?_ ?_
    rotate_left
    ·rintro w' ⟨s0, s1, s2, s3, s4, s5, s6, s7, s8, s9⟩
     go_simp
     with_reducible rfl
    rotate_left
    ·simp only [Act.put, List.setIfInBounds_toArray, List.set_cons_zero, List.set_cons_succ, i64_w, i32_w]
     rfl
    refine take_ (i := 8) (N := some 21) (v := ?_) (a' := ?_) #[true, true, true, true, false, true, true, true, true, false, true, false, true, false, false, true, false, true, false, false, false, false, false] rfl rfl (take_ofW HT_.out HW_.out (by kernel_rfl)) (fun _ _ _ h => h) (Or.inl ⟨by rfl, ?_⟩) hHeld ?_ ?_
    rotate_left
    ·rintro w' ⟨s0, s1, s2, s3, s4, s5, s6, s7, s8, s9⟩
     go_simp
     with_reducible rfl
    rotate_left
    ·simp only [Act.put, List.setIfInBounds_toArray, List.set_cons_zero, List.set_cons_succ, i64_w, i32_w]
     rfl
    refine take_ (i := 11) (N := some 24) (v := ?_) (a' := ?_) #[true, true, true, true, false, true, true, true, true, false, true, true, true, false, false, true, false, true, false, false, false, false, false] rfl rfl (take_ofW HT_.out HW_.out (by kernel_rfl)) (fun _ _ _ h => h) (Or.inl ⟨by rfl, ?_⟩) hHeld ?_ ?_
    rotate_left
    ·rintro w' ⟨s0, s1, s2, s3, s4, s5, s6, s7, s8, s9⟩
     go_simp
     with_reducible rfl
    rotate_left
    ·simp only [Act.put, List.setIfInBounds_toArray, List.set_cons_zero, List.set_cons_succ, i64_w, i32_w]
     rfl
    refine take_ (i := 13) (N := some 26) (v := ?_) (a' := ?_) #[true, true, true, true, false, true, true, true, true, false, true, true, true, true, false, true, false, true, false, false, false, false, false] rfl rfl (take_ofW HT_.out HW_.out (by kernel_rfl)) (fun _ _ _ h => h) (Or.inl ⟨by rfl, ?_⟩) hHeld ?_ ?_
    rotate_left
    ·rintro w' ⟨s0, s1, s2, s3, s4, s5, s6, s7, s8, s9⟩
     go_simp
     with_reducible rfl
    rotate_left
    ·simp only [Act.put, List.setIfInBounds_toArray, List.set_cons_zero, List.set_cons_succ, i64_w, i32_w]
     rfl
    refine take_ (i := 16) (N := some 29) (v := ?_) (a' := ?_) #[true, true, true, true, false, true, true, true, true, false, true, true, true, true, false, true, true, true, false, false, false, false, false] rfl rfl (take_ofW HT_.out HW_.out (by kernel_rfl)) (fun _ _ _ h => h) (Or.inl ⟨by rfl, ?_⟩) hHeld ?_ ?_
    rotate_left
    ·rintro w' ⟨s0, s1, s2, s3, s4, s5, s6, s7, s8, s9⟩
     go_simp
     with_reducible rfl
    rotate_left
    ·simp only [Act.put, List.setIfInBounds_toArray, List.set_cons_zero, List.set_cons_succ, i64_w, i32_w]
     rfl
    refine take_ (i := 18) (N := some 31) (v := ?_) (a' := ?_) #[true, true, true, true, false, true, true, true, true, false, true, true, true, true, false, true, true, true, true, false, false, false, false] rfl rfl (take_ofW HT_.out HW_.out (by kernel_rfl)) (fun _ _ _ h => h) (Or.inl ⟨by rfl, ?_⟩) hHeld ?_ ?_
    rotate_left
    ·rintro w' ⟨s0, s1, s2, s3, s4, s5, s6, s7, s8, s9⟩
     go_simp
     with_reducible rfl
    rotate_left
    ·simp only [Act.put, List.setIfInBounds_toArray, List.set_cons_zero, List.set_cons_succ, i64_w, i32_w]
     rfl
    refine one_ (i := 4) (N := some 17) #[true, true, true, true, true, true, true, true, true, false, true, true, true, true, false, true, true, true, true, false, false, false, false] rfl rfl (one_of HT_.out (by kernel_rfl)) (by decide) (fun K hK => ?_)
    refine goes_ Tryd.func39 (by kernel_rfl) rfl #[.int .i64 a0_0, .int .i64 a1_0] (by rfl) rfl rfl (by (try simp only [List.map_toArray, List.map_cons, List.map_nil]); first | done | rfl) ?_
    with_reducible refine (cmp_Compare_int.calls a0_0 a1_0 t160 _ A18.out).mono ?_
    rintro e w' ⟨rfl, ⟨nd, rfl⟩⟩
    refine ⟨_, rfl, ?_⟩
    refine hK.out _ _ ⟨(xC_ BK156.out 0).trans rfl, (xC_ BK156.out 1).trans rfl, (xC_ BK156.out 2).trans rfl, (xC_ BK156.out 3).trans rfl, (xC_ BK156.out 4).trans rfl, (xC_ BK157.out 0).trans rfl, (xC_ BK157.out 1).trans rfl, (xC_ BK157.out 2).trans rfl, (xC_ BK157.out 3).trans rfl, (xC_ BK157.out 4).trans rfl⟩ (fun hHeld => ?_)
    clear hK K
    refine norm_ (a' := ?_) ?_ ?_
    rotate_left
    ·show Act.put _ (some 17) _ = _
     simp only [Act.put, List.setIfInBounds_toArray, List.set_cons_zero, List.set_cons_succ, i64_w, i32_w]
     rfl
    refine one_ (i := 9) (N := some 22) #[true, true, true, true, true, true, true, true, true, true, true, true, true, true, false, true, true, true, true, false, false, false, false] rfl rfl (one_of HT_.out (by kernel_rfl)) (by decide) (fun K hK => ?_)
    refine goes_ Tryd.func39 (by kernel_rfl) rfl #[.int .i64 a0_1, .int .i64 a1_1] (by rfl) rfl rfl (by (try simp only [List.map_toArray, List.map_cons, List.map_nil]); first | done | rfl) ?_
    with_reducible refine (cmp_Compare_int.calls a0_1 a1_1 t161 _ A19.out).mono ?_
    rintro e w' ⟨rfl, ⟨nd, rfl⟩⟩
    refine ⟨_, rfl, ?_⟩
    refine hK.out _ _ ⟨(xC_ BK156.out 0).trans rfl, (xC_ BK156.out 1).trans rfl, (xC_ BK156.out 2).trans rfl, (xC_ BK156.out 3).trans rfl, (xC_ BK156.out 4).trans rfl, (xC_ BK157.out 0).trans rfl, (xC_ BK157.out 1).trans rfl, (xC_ BK157.out 2).trans rfl, (xC_ BK157.out 3).trans rfl, (xC_ BK157.out 4).trans rfl⟩ (fun hHeld => ?_)
    clear hK K
    refine norm_ (a' := ?_) ?_ ?_
    rotate_left
    ·show Act.put _ (some 22) _ = _
     simp only [Act.put, List.setIfInBounds_toArray, List.set_cons_zero, List.set_cons_succ, i64_w, i32_w]
     rfl
    refine one_ (i := 14) (N := some 27) #[true, true, true, true, true, true, true, true, true, true, true, true, true, true, true, true, true, true, true, false, false, false, false] rfl rfl (one_of HT_.out (by kernel_rfl)) (by decide) (fun K hK => ?_)
    refine goes_ Tryd.func39 (by kernel_rfl) rfl #[.int .i64 a0_2, .int .i64 a1_2] (by rfl) rfl rfl (by (try simp only [List.map_toArray, List.map_cons, List.map_nil]); first | done | rfl) ?_
    with_reducible refine (cmp_Compare_int.calls a0_2 a1_2 t162 _ A20.out).mono ?_
    rintro e w' ⟨rfl, ⟨nd, rfl⟩⟩
    refine ⟨_, rfl, ?_⟩
    refine hK.out _ _ ⟨(xC_ BK156.out 0).trans rfl, (xC_ BK156.out 1).trans rfl, (xC_ BK156.out 2).trans rfl, (xC_ BK156.out 3).trans rfl, (xC_ BK156.out 4).trans rfl, (xC_ BK157.out 0).trans rfl, (xC_ BK157.out 1).trans rfl, (xC_ BK157.out 2).trans rfl, (xC_ BK157.out 3).trans rfl, (xC_ BK157.out 4).trans rfl⟩ (fun hHeld => ?_)
    clear hK K
    refine norm_ (a' := ?_) ?_ ?_
    rotate_left
    ·show Act.put _ (some 27) _ = _
     simp only [Act.put, List.setIfInBounds_toArray, List.set_cons_zero, List.set_cons_succ, i64_w, i32_w]
     rfl
    refine one_ (i := 19) (N := some 32) #[true, true, true, true, true, true, true, true, true, true, true, true, true, true, true, true, true, true, true, true, false, false, false] rfl rfl (one_of HT_.out (by kernel_rfl)) (by decide) (fun K hK => ?_)
    refine goes_ Tryd.func40 (by kernel_rfl) rfl #[.string a0_3, .string a1_3] (by rfl) rfl rfl (by (try simp only [List.map_toArray, List.map_cons, List.map_nil]); first | done | rfl) ?_
    with_reducible refine (ver_byPre.calls a0_3 a1_3 t163 _ A21.out).mono ?_
    rintro e w24 ⟨rfl, hb⟩
    refine ⟨_, rfl, ?_⟩
    have n0_ := Aside0.mk (blk_below (g := gb156) (o := .cells #[.int .i64 a0_0, .int .i64 a0_1, .int .i64 a0_2, .string a0_3, .string a0_4] 23 (0, 0)) (by (with_reducible repeat (first | apply xN_ | apply xD_ | apply xA_)); exact BK156.out) hb)
    have n1_ := Aside0.mk (blk_below (g := gb157) (o := .cells #[.int .i64 a1_0, .int .i64 a1_1, .int .i64 a1_2, .string a1_3, .string a1_4] 23 (0, 0)) (by (with_reducible repeat (first | apply xN_ | apply xD_ | apply xA_)); exact BK157.out) hb)
    have n2_ := Aside0.mk (below_step (by repeat (first | (with_reducible first | exact HB.out | apply yA_ | apply yN_ | apply yD_ | refine yS_ ?_ GE156.out | refine yS_ ?_ GE157.out) | exact HB.out)) hb)
    clear BK156
    clear BK157
    clear HB
    have BK156 := n0_
    have BK157 := n1_
    have HB := n2_
    clear n0_ n1_ n2_
    (try clear hb)
    (try clear hb2)
    (try clear hk)
    (try clear hi)
    refine hK.out _ _ ⟨(xC_ BK156.out 0).trans rfl, (xC_ BK156.out 1).trans rfl, (xC_ BK156.out 2).trans rfl, (xC_ BK156.out 3).trans rfl, (xC_ BK156.out 4).trans rfl, (xC_ BK157.out 0).trans rfl, (xC_ BK157.out 1).trans rfl, (xC_ BK157.out 2).trans rfl, (xC_ BK157.out 3).trans rfl, (xC_ BK157.out 4).trans rfl⟩ (fun hHeld => ?_)
    clear hK K
    refine norm_ (a' := ?_) ?_ ?_
    rotate_left
    ·show Act.put _ (some 32) _ = _
     simp only [Act.put, List.setIfInBounds_toArray, List.set_cons_zero, List.set_cons_succ, i64_w, i32_w]
     rfl
    refine one_ (i := 20) (N := some 33) #[true, true, true, true, true, true, true, true, true, true, true, true, true, true, true, true, true, true, true, true, true, false, false] rfl rfl (one_of HT_.out (by kernel_rfl)) (by decide) (fun K hK => ?_)
    refine Kd.R_lit_step (Kd.int .i64) _ 3 ?hg (N := 33) ?hd (xs := ([t160, t161, t162, t163] : List Int)) (inner := [.int .i64 t160, .int .i64 t161, .int .i64 t162, .int .i64 t163]) (ok := fun _ => True) (okp := fun _ => True) ?hr ?hp (fun _ hk => hk) trivial (Below.refl _ _) (Nat.le_refl _) (by simp) ?_; (case hd => rfl); (case hg => rfl); (case hr => first | (go_simp; done) | (go_simp; rfl)); (case hp => exact (Reps.one (show Kd.M (Kd.int .i64) _ _ _ t160 [.int .i64 t160] from rfl) (Reps.one (show Kd.M (Kd.int .i64) _ _ _ t161 [.int .i64 t161] from rfl) (Reps.one (show Kd.M (Kd.int .i64) _ _ _ t162 [.int .i64 t162] from rfl) (Reps.one (show Kd.M (Kd.int .i64) _ _ _ t163 [.int .i64 t163] from rfl) (Reps.none _ _))))))
    intro v165 w25 ho26 hb hg_ hnew_
    clear hg_ hnew_
    (first | rw [← Ny164.out] at ho26 | (simp only [Int.reduceToNat] at ho26; rw [← Ny164.out] at ho26))
    have n0_ := Aside0.mk (Kd.R_lower ho26 (below_size (by repeat (first | (with_reducible first | exact HB.out | apply yA_ | apply yN_ | apply yD_ | refine yS_ ?_ GE156.out | refine yS_ ?_ GE157.out) | exact HB.out))))
    have n1_ := Aside0.mk (blk_below (g := gb156) (o := .cells #[.int .i64 a0_0, .int .i64 a0_1, .int .i64 a0_2, .string a0_3, .string a0_4] 23 (0, 0)) (by (with_reducible repeat (first | apply xN_ | apply xD_ | apply xA_)); exact BK156.out) hb)
    have n2_ := Aside0.mk (blk_below (g := gb157) (o := .cells #[.int .i64 a1_0, .int .i64 a1_1, .int .i64 a1_2, .string a1_3, .string a1_4] 23 (0, 0)) (by (with_reducible repeat (first | apply xN_ | apply xD_ | apply xA_)); exact BK157.out) hb)
    have n3_ := Aside0.mk (below_step (by repeat (first | (with_reducible first | exact HB.out | apply yA_ | apply yN_ | apply yD_ | refine yS_ ?_ GE156.out | refine yS_ ?_ GE157.out) | exact HB.out)) hb)
    clear BK156
    clear BK157
    clear HB
    have HO166 := n0_
    have BK156 := n1_
    have BK157 := n2_
    have HB := n3_
    clear n0_ n1_ n2_ n3_
    clear hb ho26
    obtain ⟨Ao27, co27, eo27⟩ := Kd.R_slice HO166.out
    (first | subst eo27 | (injection eo27 with f1_ f2_ f3_; have f4_ := f1_.symm; have f5_ := f3_.symm; clear f1_ f2_ f3_; subst f4_; subst f5_))
    refine hK.out _ _ ⟨(xC_ BK156.out 0).trans rfl, (xC_ BK156.out 1).trans rfl, (xC_ BK156.out 2).trans rfl, (xC_ BK156.out 3).trans rfl, (xC_ BK156.out 4).trans rfl, (xC_ BK157.out 0).trans rfl, (xC_ BK157.out 1).trans rfl, (xC_ BK157.out 2).trans rfl, (xC_ BK157.out 3).trans rfl, (xC_ BK157.out 4).trans rfl⟩ (fun hHeld => ?_)
    clear hK K
    refine norm_ (a' := ?_) ?_ ?_
    rotate_left
    ·show Act.put _ (some 33) _ = _
     simp only [Act.put, List.setIfInBounds_toArray, List.set_cons_zero, List.set_cons_succ, i64_w, i32_w]
     rfl
    refine one_ (i := 21) (N := some 34) #[true, true, true, true, true, true, true, true, true, true, true, true, true, true, true, true, true, true, true, true, true, true, false] rfl rfl (one_of HT_.out (by kernel_rfl)) (by decide) (fun K hK => ?_)
    refine goes_ Tryd.func38 (by kernel_rfl) rfl #[.slice Ao27 y164.length co27] (by rfl) rfl rfl (by (try simp only [List.map_toArray, List.map_cons, List.map_nil]); first | done | rfl) ?_
    with_reducible refine (cmp_Or_int.calls kj2 _ _ y164 t167 _ ?side1 ?side2 A22.out).mono ?_
    (case side1 => repeat (first | exact (Kd.R_reads' HO166.out).2.2 | (with_reducible refine Kd.C_alloc ?_ _) | (with_reducible refine Kd.C_drewN ?_ _) | (with_reducible refine Kd.C_drew ?_)))
    (case side2 => exact (Kd.R_reads' HO166.out).2.1)
    rintro e w' ⟨rfl, ⟨nd, rfl⟩⟩
    refine ⟨_, rfl, ?_⟩
    refine hK.out _ _ ⟨(xC_ BK156.out 0).trans rfl, (xC_ BK156.out 1).trans rfl, (xC_ BK156.out 2).trans rfl, (xC_ BK156.out 3).trans rfl, (xC_ BK156.out 4).trans rfl, (xC_ BK157.out 0).trans rfl, (xC_ BK157.out 1).trans rfl, (xC_ BK157.out 2).trans rfl, (xC_ BK157.out 3).trans rfl, (xC_ BK157.out 4).trans rfl⟩ (fun hHeld => ?_)
    clear hK K
    refine norm_ (a' := ?_) ?_ ?_
    rotate_left
    ·show Act.put _ (some 34) _ = _
     simp only [Act.put, List.setIfInBounds_toArray, List.set_cons_zero, List.set_cons_succ, i64_w, i32_w]
     rfl
    refine pure_ (i := 22) (N := some 4) (v := ?_) (a' := ?_) #[true, true, true, true, true, true, true, true, true, true, true, true, true, true, true, true, true, true, true, true, true, true, true] rfl rfl (any_of HT_.out (by kernel_rfl)) (fun _ _ _ h => h) (Or.inl ⟨by rfl, ?_⟩) ?_ ?_
    rotate_left
    ·intro w'
     go_simp
     with_reducible rfl
    rotate_left
    ·simp only [Act.put, List.setIfInBounds_toArray, List.set_cons_zero, List.set_cons_succ, i64_w, i32_w]
     rfl
    refine done_ (done_of HT_.out (by kernel_rfl)) ?_
    try go_wp2
    go_ret
    exact ⟨by first | rfl | (simp [errW_none, errW_some] <;> rfl) | (simp [*, errW_none, errW_some] <;> rfl), by repeat (first | (with_reducible first | exact HB.out | apply yA_ | apply yN_ | apply yD_ | refine yS_ ?_ GE156.out | refine yS_ ?_ GE157.out) | exact HB.out)⟩
def ver_Max.l0 : Nat → Bool → List (S23) → Int → Int → Int → Int → Int → ByteArray → ByteArray → Option (Int × Int × Int × ByteArray × ByteArray × Bool)
 | 0, _, _, _, _, _, _, _, _, _ => none
 | k + 1, x5, x8, x9, x10, x170000, x170001, x170002, x170003, x170004 => if x10 < x9 then (if 0 ≤ x10 then (if x10 < (x8.length : Int) then ((ver_Check.f ((rd_T23 x8 x10).f0) ((rd_T23 x8 x10).f1) ((rd_T23 x8 x10).f2) ((rd_T23 x8 x10).f3) ((rd_T23 x8 x10).f4)).bind fun t172 => (if t172 = true then (if x5 = true then ((ver_Compare.f k ((rd_T23 x8 x10).f0) ((rd_T23 x8 x10).f1) ((rd_T23 x8 x10).f2) ((rd_T23 x8 x10).f3) ((rd_T23 x8 x10).f4) x170000 x170001 x170002 x170003 x170004).bind fun t173 => (if t173 > 0 then (ver_Max.l0 k true x8 x9 (wrap64 (x10 + 1)) ((rd_T23 x8 x10).f0) ((rd_T23 x8 x10).f1) ((rd_T23 x8 x10).f2) ((rd_T23 x8 x10).f3) ((rd_T23 x8 x10).f4)) else (ver_Max.l0 k x5 x8 x9 (wrap64 (x10 + 1)) x170000 x170001 x170002 x170003 x170004))) else (ver_Max.l0 k true x8 x9 (wrap64 (x10 + 1)) ((rd_T23 x8 x10).f0) ((rd_T23 x8 x10).f1) ((rd_T23 x8 x10).f2) ((rd_T23 x8 x10).f3) ((rd_T23 x8 x10).f4))) else (ver_Max.l0 k x5 x8 x9 (wrap64 (x10 + 1)) x170000 x170001 x170002 x170003 x170004))) else (none)) else (none)) else (some (x170000, x170001, x170002, x170003, x170004, x5))
def ver_Max.f (k : Nat) (l0 : List (S23)) : Option (Int × Int × Int × ByteArray × ByteArray × Bool) := ver_Max.l0 k false l0 (l0.length : Int) 0 0 0 0 (⟨#[]⟩ : ByteArray) (⟨#[]⟩ : ByteArray)
theorem ver_Max.mono_l : ∀ k, (∀ y0 y1 y2 y3 y4 y5 y6 y7 y8, LeO (ver_Max.l0 k y0 y1 y2 y3 y4 y5 y6 y7 y8) (ver_Max.l0 (k + 1) y0 y1 y2 y3 y4 y5 y6 y7 y8))
 | 0 => fun _ _ _ _ _ _ _ _ _ r h => by simp [ver_Max.l0] at h
 | k + 1 => by
  have ih0 := ver_Max.mono_l k
  ·intro y0 y1 y2 y3 y4 y5 y6 y7 y8
   unfold ver_Max.l0
   repeat' first
   | (with_reducible exact ih0 _ _ _ _ _ _ _ _ _)
   | (with_reducible exact ver_Compare.mono _ _ _ _ _ _ _ _ _ _ _)
   | (with_reducible exact LeO.refl _)
   | (with_reducible exact LeO.none _)
   | (with_reducible refine LeO.ite ?_ ?_)
   | (with_reducible refine LeO.bind ?_ (fun _ => ?_))
   | exact ih0 _ _ _ _ _ _ _ _ _
   | exact ver_Compare.mono _ _ _ _ _ _ _ _ _ _ _
   | exact LeO.none _
   | refine LeO.ite ?_ ?_
   | refine LeO.bind ?_ (fun _ => ?_)
theorem ver_Max.mono : ∀ a0 k, LeO (ver_Max.f k a0) (ver_Max.f (k + 1) a0) := by
 intro a0 k
 have ih0 := ver_Max.mono_l k
 unfold ver_Max.f
 repeat' first
   | (with_reducible exact ih0 _ _ _ _ _ _ _ _ _)
   | (with_reducible exact ver_Compare.mono _ _ _ _ _ _ _ _ _ _ _)
   | (with_reducible exact LeO.refl _)
   | (with_reducible exact LeO.none _)
   | (with_reducible refine LeO.ite ?_ ?_)
   | (with_reducible refine LeO.bind ?_ (fun _ => ?_))
   | exact ih0 _ _ _ _ _ _ _ _ _
   | exact ver_Compare.mono _ _ _ _ _ _ _ _ _ _ _
   | exact LeO.none _
   | refine LeO.ite ?_ ?_
   | refine LeO.bind ?_ (fun _ => ?_)
set_option maxHeartbeats 8000000 in
set_option maxRecDepth 100000 in
theorem ver_Max.calls (k : Nat) (A0 : Option Addr) (c0 : Nat) (l0 : List (S23)) (r1 : Int) (r2 : Int) (r3 : Int) (r4 : ByteArray) (r5 : ByteArray) (r6 : Bool) (w : World) (hr0 : Kd.C k23 w A0 l0.length l0) (hc0 : l0.length ≤ c0) (h : ver_Max.f k l0 = some (r1, r2, r3, r4, r5, r6)) :
  Calls Tryd.prog 21 #[.slice A0 l0.length c0] w fun e w' => e = .returned (.tuple #[.agg #[.int .i64 r1, .int .i64 r2, .int .i64 r3, .string r4, .string r5], .bool r6]) ∧ Below w.heap.size w w' := by
 have hu23 := Tryd.underlying23
 have HR0 := Aside0.mk hr0
 have HC0 := Aside0.mk hc0
 clear hr0 hc0
 have HB := Aside0.mk (Below.refl w.heap.size w)
 have H : (ver_Max.l0 k false l0 (l0.length : Int) 0 0 0 0 (⟨#[]⟩ : ByteArray) (⟨#[]⟩ : ByteArray)) = some (r1, r2, r3, r4, r5, r6) := h
 clear h
 have H' := Aside0.mk H
 clear H
 go_enter Tryd.func21, Tryd.ntmps21
 go_wp2_with (first | ((with_reducible refine gate_dst (N := 2) rfl ?_); refine box_event ?hg (N := 2) ?hd (cs := #[.int .i64 0, .int .i64 0, .int .i64 0, .string (⟨#[]⟩ : ByteArray), .string (⟨#[]⟩ : ByteArray)]) (t := 23) ?hr ?_; (case hd => rfl); (case hg => rfl); (case hr => first | (go_simp; done) | (go_simp; rfl)); intro gb168 hg w2 hbox hb; have n0_ := Aside0.mk (below_step (by repeat (first | (with_reducible first | exact HB.out | apply yA_ | apply yN_ | apply yD_) | exact HB.out)) hb); have n1_ := Aside0.mk (hbox); have n2_ := Aside0.mk ((by rw [hg]; exact (below_size (by repeat (first | (with_reducible first | exact HB.out | apply yA_ | apply yN_ | apply yD_) | exact HB.out))) : w.heap.size ≤ gb168)); have n3_ := Aside0.mk ((by rw [hg]; exact (below_size (by repeat (first | (with_reducible first | exact HB.out | apply yA_ | apply yN_ | apply yD_) | exact HB.out))) : w.heap.size ≤ gb168)); clear HB; have HB := n0_; have BK168 := n1_; have GW168 := n2_; have GE168 := n3_; clear n0_ n1_ n2_ n3_; clear hb hbox hg) | ((with_reducible refine gate_dst (N := 4) rfl ?_); refine box_event ?hg (N := 4) ?hd (cs := #[.int .i64 0, .int .i64 0, .int .i64 0, .string (⟨#[]⟩ : ByteArray), .string (⟨#[]⟩ : ByteArray)]) (t := 23) ?hr ?_; (case hd => rfl); (case hg => rfl); (case hr => first | (go_simp; done) | (go_simp; rfl)); intro gb169 hg w3 hbox hb; have n0_ := Aside0.mk (blk_below (g := gb168) (o := .cells #[.int .i64 0, .int .i64 0, .int .i64 0, .string (⟨#[]⟩ : ByteArray), .string (⟨#[]⟩ : ByteArray)] 23 (0, 0)) (by (with_reducible repeat (first | apply xN_ | apply xD_ | apply xA_)); exact BK168.out) hb); have n1_ := Aside0.mk (below_step (by repeat (first | (with_reducible first | exact HB.out | apply yA_ | apply yN_ | apply yD_ | refine yS_ ?_ GE168.out) | exact HB.out)) hb); have n2_ := Aside0.mk (hbox); have n3_ := Aside0.mk ((by rw [hg]; exact (below_size (by repeat (first | (with_reducible first | exact HB.out | apply yA_ | apply yN_ | apply yD_ | refine yS_ ?_ GE168.out) | exact HB.out))) : w.heap.size ≤ gb169)); have n4_ := Aside0.mk ((by rw [hg]; exact (below_size (by repeat (first | (with_reducible first | exact HB.out | apply yA_ | apply yN_ | apply yD_ | refine yS_ ?_ GE168.out) | exact HB.out))) : w.heap.size ≤ gb169)); have n5_ := Aside0.mk ((by rw [hg]; exact Nat.ne_of_lt (blk_lt (g := gb168) (o := .cells #[.int .i64 0, .int .i64 0, .int .i64 0, .string (⟨#[]⟩ : ByteArray), .string (⟨#[]⟩ : ByteArray)] 23 (0, 0)) (by (with_reducible repeat (first | apply xN_ | apply xD_ | apply xA_)); exact BK168.out)) : gb168 ≠ gb169)); have n6_ := Aside0.mk ((by rw [hg]; exact Nat.ne_of_gt (blk_lt (g := gb168) (o := .cells #[.int .i64 0, .int .i64 0, .int .i64 0, .string (⟨#[]⟩ : ByteArray), .string (⟨#[]⟩ : ByteArray)] 23 (0, 0)) (by (with_reducible repeat (first | apply xN_ | apply xD_ | apply xA_)); exact BK168.out)) : gb169 ≠ gb168)); clear BK168; clear HB; have BK168 := n0_; have HB := n1_; have BK169 := n2_; have GW169 := n3_; have GE169 := n4_; have NB168_169 := n5_; have NB169_168 := n6_; clear n0_ n1_ n2_ n3_ n4_ n5_ n6_; clear hb hbox hg))
 go_loopg [5, 10] k (fun kq v5 v10 w' => ∃ (x5_1 : Bool) (x10_1 : Int) (x170000_1 : Int) (x170001_1 : Int) (x170002_1 : Int) (x170003_1 : ByteArray) (x170004_1 : ByteArray), v5 = .bool x5_1 ∧ v10 = .int .i64 x10_1 ∧ Aside0 (ver_Max.l0 kq x5_1 l0 (l0.length : Int) x10_1 x170000_1 x170001_1 x170002_1 x170003_1 x170004_1 = some (r1, r2, r3, r4, r5, r6)) ∧ Aside0 (kq ≤ k) ∧ Aside0 (w'.heap[gb168]? = some (.cells #[.int .i64 0, .int .i64 0, .int .i64 0, .string (⟨#[]⟩ : ByteArray), .string (⟨#[]⟩ : ByteArray)] 23 (0, 0))) ∧ Aside0 (w'.heap[gb169]? = some (.cells #[.int .i64 x170000_1, .int .i64 x170001_1, .int .i64 x170002_1, .string x170003_1, .string x170004_1] 23 (0, 0))) ∧ Aside0 (Below w.heap.size w w'))
 case atStart => exact ⟨(false), (0), (0), (0), (0), ((⟨#[]⟩ : ByteArray)), ((⟨#[]⟩ : ByteArray)), (by first | rfl | (simp; done) | (simp [*]; done)), (by first | rfl | (simp; done) | (simp [*]; done)), H', ⟨Nat.le_refl _⟩, ⟨by (with_reducible repeat (first | apply xN_ | apply xD_ | apply xA_)); exact BK168.out⟩, ⟨by (with_reducible repeat (first | apply xN_ | apply xD_ | apply xA_)); exact BK169.out⟩, ⟨by repeat (first | (with_reducible first | exact HB.out | apply yA_ | apply yN_ | apply yD_ | refine yS_ ?_ GE168.out | refine yS_ ?_ GE169.out) | exact HB.out)⟩⟩
 case round =>
  clear H'
  (try clear c2); (try clear p2)
  obtain ⟨x5_1, x10_1, x170000_1, x170001_1, x170002_1, x170003_1, x170004_1, rfl, rfl, HA, HK1, BK168, BK169, HB⟩ := hrel
  cases gk with
  | zero => exact absurd HA.out (by simp [ver_Max.l0])
  | succ k1 =>
   have H := HA.out
   clear HA
   simp only [ver_Max.l0] at H
   by_cases c4 : x10_1 < (l0.length : Int)
   ·rw [if_pos c4] at H
    have c4b0 : decide (x10_1 < (l0.length : Int)) = true := decide_eq_true c4
    clear c4
    by_cases c5 : 0 ≤ x10_1
    ·rw [if_pos c5] at H
     have c5b0 : decide (0 ≤ x10_1) = true := decide_eq_true c5
     clear c5
     by_cases c6 : x10_1 < (l0.length : Int)
     ·rw [if_pos c6] at H
      have c6b0 : decide (x10_1 < (l0.length : Int)) = true := decide_eq_true c6
      clear c6
      replace H := Option.bind_eq_some_iff.mp H
      obtain ⟨t172, A70, H⟩ := H
      replace H : (if t172 = true then (if x5_1 = true then ((ver_Compare.f k1 ((rd_T23 l0 x10_1).f0) ((rd_T23 l0 x10_1).f1) ((rd_T23 l0 x10_1).f2) ((rd_T23 l0 x10_1).f3) ((rd_T23 l0 x10_1).f4) x170000_1 x170001_1 x170002_1 x170003_1 x170004_1).bind fun t173 => (if t173 > 0 then (ver_Max.l0 k1 true l0 (l0.length : Int) (wrap64 (x10_1 + 1)) ((rd_T23 l0 x10_1).f0) ((rd_T23 l0 x10_1).f1) ((rd_T23 l0 x10_1).f2) ((rd_T23 l0 x10_1).f3) ((rd_T23 l0 x10_1).f4)) else (ver_Max.l0 k1 x5_1 l0 (l0.length : Int) (wrap64 (x10_1 + 1)) x170000_1 x170001_1 x170002_1 x170003_1 x170004_1))) else (ver_Max.l0 k1 true l0 (l0.length : Int) (wrap64 (x10_1 + 1)) ((rd_T23 l0 x10_1).f0) ((rd_T23 l0 x10_1).f1) ((rd_T23 l0 x10_1).f2) ((rd_T23 l0 x10_1).f3) ((rd_T23 l0 x10_1).f4))) else (ver_Max.l0 k1 x5_1 l0 (l0.length : Int) (wrap64 (x10_1 + 1)) x170000_1 x170001_1 x170002_1 x170003_1 x170004_1)) = some (r1, r2, r3, r4, r5, r6) := H
      have A7 := Aside0.mk A70
      clear A70
      by_cases c8 : t172 = true
      ·subst c8
       have H1 : (if x5_1 = true then ((ver_Compare.f k1 ((rd_T23 l0 x10_1).f0) ((rd_T23 l0 x10_1).f1) ((rd_T23 l0 x10_1).f2) ((rd_T23 l0 x10_1).f3) ((rd_T23 l0 x10_1).f4) x170000_1 x170001_1 x170002_1 x170003_1 x170004_1).bind fun t173 => (if t173 > 0 then (ver_Max.l0 k1 true l0 (l0.length : Int) (wrap64 (x10_1 + 1)) ((rd_T23 l0 x10_1).f0) ((rd_T23 l0 x10_1).f1) ((rd_T23 l0 x10_1).f2) ((rd_T23 l0 x10_1).f3) ((rd_T23 l0 x10_1).f4)) else (ver_Max.l0 k1 x5_1 l0 (l0.length : Int) (wrap64 (x10_1 + 1)) x170000_1 x170001_1 x170002_1 x170003_1 x170004_1))) else (ver_Max.l0 k1 true l0 (l0.length : Int) (wrap64 (x10_1 + 1)) ((rd_T23 l0 x10_1).f0) ((rd_T23 l0 x10_1).f1) ((rd_T23 l0 x10_1).f2) ((rd_T23 l0 x10_1).f3) ((rd_T23 l0 x10_1).f4))) = some (r1, r2, r3, r4, r5, r6) := by rw [if_pos rfl] at H; exact H
       clear H
       have H := H1
       clear H1
       by_cases c9 : x5_1 = true
       ·subst c9
        have H1 : ((ver_Compare.f k1 ((rd_T23 l0 x10_1).f0) ((rd_T23 l0 x10_1).f1) ((rd_T23 l0 x10_1).f2) ((rd_T23 l0 x10_1).f3) ((rd_T23 l0 x10_1).f4) x170000_1 x170001_1 x170002_1 x170003_1 x170004_1).bind fun t173 => (if t173 > 0 then (ver_Max.l0 k1 true l0 (l0.length : Int) (wrap64 (x10_1 + 1)) ((rd_T23 l0 x10_1).f0) ((rd_T23 l0 x10_1).f1) ((rd_T23 l0 x10_1).f2) ((rd_T23 l0 x10_1).f3) ((rd_T23 l0 x10_1).f4)) else (ver_Max.l0 k1 true l0 (l0.length : Int) (wrap64 (x10_1 + 1)) x170000_1 x170001_1 x170002_1 x170003_1 x170004_1))) = some (r1, r2, r3, r4, r5, r6) := by rw [if_pos rfl] at H; exact H
        clear H
        have H := H1
        clear H1
        replace H := Option.bind_eq_some_iff.mp H
        obtain ⟨t173, A100, H⟩ := H
        replace H : (if t173 > 0 then (ver_Max.l0 k1 true l0 (l0.length : Int) (wrap64 (x10_1 + 1)) ((rd_T23 l0 x10_1).f0) ((rd_T23 l0 x10_1).f1) ((rd_T23 l0 x10_1).f2) ((rd_T23 l0 x10_1).f3) ((rd_T23 l0 x10_1).f4)) else (ver_Max.l0 k1 true l0 (l0.length : Int) (wrap64 (x10_1 + 1)) x170000_1 x170001_1 x170002_1 x170003_1 x170004_1)) = some (r1, r2, r3, r4, r5, r6) := H
        have A10 := Aside0.mk A100
        clear A100
        by_cases c11 : t173 > 0
        ·rw [if_pos c11] at H
         have c11b0 : decide (0 < t173) = true := decide_eq_true c11
         clear c11
         have H' := Aside0.mk H
         clear H
         have p170 : 0 ≤ (x10_1 : Int) := of_decide_eq_true (by first | (with_reducible assumption) | assumption)
         have q170 : x10_1 < (l0.length : Int) := of_decide_eq_true (by first | (with_reducible assumption) | assumption)
         obtain ⟨ad170, e170, hx170_0, hx170_1, hx170_2, hx170_3, hx170_4⟩ := at_T23 HR0.out x10_1 p170 q170
         cases e170
         replace hx170_0 := (HB.out.cell (World.block_lt_of_cell? w _ hx170_0)).trans hx170_0
         replace hx170_1 := (HB.out.cell (World.block_lt_of_cell? w _ hx170_1)).trans hx170_1
         replace hx170_2 := (HB.out.cell (World.block_lt_of_cell? w _ hx170_2)).trans hx170_2
         replace hx170_3 := (HB.out.cell (World.block_lt_of_cell? w _ hx170_3)).trans hx170_3
         replace hx170_4 := (HB.out.cell (World.block_lt_of_cell? w _ hx170_4)).trans hx170_4
         replace p170 := eq_true p170
         replace q170 := eq_true q170
         go_wp2_with (first | ((with_reducible refine gate_dst (N := 7) rfl ?_); refine box_event ?hg (N := 7) ?hd (cs := #[.int .i64 0, .int .i64 0, .int .i64 0, .string (⟨#[]⟩ : ByteArray), .string (⟨#[]⟩ : ByteArray)]) (t := 23) ?hr ?_; (case hd => rfl); (case hg => rfl); (case hr => first | (go_simp; done) | (go_simp; rfl)); intro gb171 hg w12 hbox hb; have n0_ := Aside0.mk (blk_below (g := gb168) (o := .cells #[.int .i64 0, .int .i64 0, .int .i64 0, .string (⟨#[]⟩ : ByteArray), .string (⟨#[]⟩ : ByteArray)] 23 (0, 0)) (by (with_reducible repeat (first | apply xN_ | apply xD_ | apply xA_)); exact BK168.out) hb); have n1_ := Aside0.mk (blk_below (g := gb169) (o := .cells #[.int .i64 x170000_1, .int .i64 x170001_1, .int .i64 x170002_1, .string x170003_1, .string x170004_1] 23 (0, 0)) (by (with_reducible repeat (first | apply xN_ | apply xD_ | apply xA_)); exact BK169.out) hb); have n2_ := Aside0.mk (below_step (by repeat (first | (with_reducible first | exact HB.out | apply yA_ | apply yN_ | apply yD_ | refine yS_ ?_ GE168.out | refine yS_ ?_ GE169.out) | exact HB.out)) hb); have n3_ := Aside0.mk (hbox); have n4_ := Aside0.mk ((by rw [hg]; exact (below_size (by repeat (first | (with_reducible first | exact HB.out | apply yA_ | apply yN_ | apply yD_ | refine yS_ ?_ GE168.out | refine yS_ ?_ GE169.out) | exact HB.out))) : w.heap.size ≤ gb171)); have n5_ := Aside0.mk ((by rw [hg]; exact (below_size (by repeat (first | (with_reducible first | exact HB.out | apply yA_ | apply yN_ | apply yD_ | refine yS_ ?_ GE168.out | refine yS_ ?_ GE169.out) | exact HB.out))) : w.heap.size ≤ gb171)); have n6_ := Aside0.mk ((by rw [hg]; exact Nat.ne_of_lt (blk_lt (g := gb168) (o := .cells #[.int .i64 0, .int .i64 0, .int .i64 0, .string (⟨#[]⟩ : ByteArray), .string (⟨#[]⟩ : ByteArray)] 23 (0, 0)) (by (with_reducible repeat (first | apply xN_ | apply xD_ | apply xA_)); exact BK168.out)) : gb168 ≠ gb171)); have n7_ := Aside0.mk ((by rw [hg]; exact Nat.ne_of_gt (blk_lt (g := gb168) (o := .cells #[.int .i64 0, .int .i64 0, .int .i64 0, .string (⟨#[]⟩ : ByteArray), .string (⟨#[]⟩ : ByteArray)] 23 (0, 0)) (by (with_reducible repeat (first | apply xN_ | apply xD_ | apply xA_)); exact BK168.out)) : gb171 ≠ gb168)); have n8_ := Aside0.mk ((by rw [hg]; exact Nat.ne_of_lt (blk_lt (g := gb169) (o := .cells #[.int .i64 x170000_1, .int .i64 x170001_1, .int .i64 x170002_1, .string x170003_1, .string x170004_1] 23 (0, 0)) (by (with_reducible repeat (first | apply xN_ | apply xD_ | apply xA_)); exact BK169.out)) : gb169 ≠ gb171)); have n9_ := Aside0.mk ((by rw [hg]; exact Nat.ne_of_gt (blk_lt (g := gb169) (o := .cells #[.int .i64 x170000_1, .int .i64 x170001_1, .int .i64 x170002_1, .string x170003_1, .string x170004_1] 23 (0, 0)) (by (with_reducible repeat (first | apply xN_ | apply xD_ | apply xA_)); exact BK169.out)) : gb171 ≠ gb169)); clear BK168; clear BK169; clear HB; have BK168 := n0_; have BK169 := n1_; have HB := n2_; have BK171 := n3_; have GW171 := n4_; have GE171 := n5_; have NB168_171 := n6_; have NB171_168 := n7_; have NB169_171 := n8_; have NB171_169 := n9_; clear n0_ n1_ n2_ n3_ n4_ n5_ n6_ n7_ n8_ n9_; clear hb hbox hg; have hnb13 := NB171_168.out; have hnc13 := NB168_171.out; have hnb14 := NB171_169.out; have hnc14 := NB169_171.out; have hcz15_0 : w12.cell? ⟨gb171, 0, none⟩ = some (.int .i64 0) := (xC_ BK171.out 0).trans rfl; have hcz15_1 : w12.cell? ⟨gb171, 1, none⟩ = some (.int .i64 0) := (xC_ BK171.out 1).trans rfl; have hcz15_2 : w12.cell? ⟨gb171, 2, none⟩ = some (.int .i64 0) := (xC_ BK171.out 2).trans rfl; have hcz15_3 : w12.cell? ⟨gb171, 3, none⟩ = some (.string (⟨#[]⟩ : ByteArray)) := (xC_ BK171.out 3).trans rfl; have hcz15_4 : w12.cell? ⟨gb171, 4, none⟩ = some (.string (⟨#[]⟩ : ByteArray)) := (xC_ BK171.out 4).trans rfl; have hfz15_0 := xF_ BK171.out 0; have hfz15_1 := xF_ BK171.out 1; have hfz15_2 := xF_ BK171.out 2; have hfz15_3 := xF_ BK171.out 3; have hfz15_4 := xF_ BK171.out 4) | ((with_reducible refine gate_callee (f := 13) rfl ?_); refine goesL_ (some 15) rfl rfl Tryd.func13 (by kernel_rfl) rfl #[.agg #[.int .i64 ((rd_T23 l0 x10_1).f0), .int .i64 ((rd_T23 l0 x10_1).f1), .int .i64 ((rd_T23 l0 x10_1).f2), .string ((rd_T23 l0 x10_1).f3), .string ((rd_T23 l0 x10_1).f4)]] rfl (by (try simp only [List.map_toArray, List.map_cons, List.map_nil]); first | done | rfl) ?_; (with_reducible refine (ver_Check.calls ((rd_T23 l0 x10_1).f0) ((rd_T23 l0 x10_1).f1) ((rd_T23 l0 x10_1).f2) ((rd_T23 l0 x10_1).f3) ((rd_T23 l0 x10_1).f4) true _ A7.out).mono ?_); rintro e w16 ⟨rfl, hb⟩; refine ⟨_, rfl, ?_⟩; have n0_ := Aside0.mk (blk_below (g := gb168) (o := .cells #[.int .i64 0, .int .i64 0, .int .i64 0, .string (⟨#[]⟩ : ByteArray), .string (⟨#[]⟩ : ByteArray)] 23 (0, 0)) (by (with_reducible repeat (first | apply xN_ | apply xD_ | apply xA_)); refine xR_ ?_ NB168_171.out _; refine xR_ ?_ NB168_171.out _; refine xR_ ?_ NB168_171.out _; refine xR_ ?_ NB168_171.out _; refine xR_ ?_ NB168_171.out _; (with_reducible repeat (first | apply xN_ | apply xD_ | apply xA_)); exact BK168.out) hb); have n1_ := Aside0.mk (blk_below (g := gb169) (o := .cells #[.int .i64 x170000_1, .int .i64 x170001_1, .int .i64 x170002_1, .string x170003_1, .string x170004_1] 23 (0, 0)) (by (with_reducible repeat (first | apply xN_ | apply xD_ | apply xA_)); refine xR_ ?_ NB169_171.out _; refine xR_ ?_ NB169_171.out _; refine xR_ ?_ NB169_171.out _; refine xR_ ?_ NB169_171.out _; refine xR_ ?_ NB169_171.out _; (with_reducible repeat (first | apply xN_ | apply xD_ | apply xA_)); exact BK169.out) hb); have n2_ := Aside0.mk (blk_below (g := gb171) (o := .cells #[.int .i64 ((rd_T23 l0 x10_1).f0), .int .i64 ((rd_T23 l0 x10_1).f1), .int .i64 ((rd_T23 l0 x10_1).f2), .string ((rd_T23 l0 x10_1).f3), .string ((rd_T23 l0 x10_1).f4)] 23 (0, 0)) (by (with_reducible repeat (first | apply xN_ | apply xD_ | apply xA_)); refine blk_put (cs := #[.int .i64 ((rd_T23 l0 x10_1).f0), .int .i64 ((rd_T23 l0 x10_1).f1), .int .i64 ((rd_T23 l0 x10_1).f2), .string ((rd_T23 l0 x10_1).f3), .string (⟨#[]⟩ : ByteArray)]) ?_ 4 _ rfl; refine blk_put (cs := #[.int .i64 ((rd_T23 l0 x10_1).f0), .int .i64 ((rd_T23 l0 x10_1).f1), .int .i64 ((rd_T23 l0 x10_1).f2), .string (⟨#[]⟩ : ByteArray), .string (⟨#[]⟩ : ByteArray)]) ?_ 3 _ rfl; refine blk_put (cs := #[.int .i64 ((rd_T23 l0 x10_1).f0), .int .i64 ((rd_T23 l0 x10_1).f1), .int .i64 0, .string (⟨#[]⟩ : ByteArray), .string (⟨#[]⟩ : ByteArray)]) ?_ 2 _ rfl; refine blk_put (cs := #[.int .i64 ((rd_T23 l0 x10_1).f0), .int .i64 0, .int .i64 0, .string (⟨#[]⟩ : ByteArray), .string (⟨#[]⟩ : ByteArray)]) ?_ 1 _ rfl; refine blk_put (cs := #[.int .i64 0, .int .i64 0, .int .i64 0, .string (⟨#[]⟩ : ByteArray), .string (⟨#[]⟩ : ByteArray)]) ?_ 0 _ rfl; (with_reducible repeat (first | apply xN_ | apply xD_ | apply xA_)); exact BK171.out) hb); have n3_ := Aside0.mk (below_step (by repeat (first | (with_reducible first | exact HB.out | apply yA_ | apply yN_ | apply yD_ | refine yS_ ?_ GE168.out | refine yS_ ?_ GE169.out | refine yS_ ?_ GE171.out) | exact HB.out)) hb); clear BK168; clear BK169; clear BK171; clear HB; have BK168 := n0_; have BK169 := n1_; have BK171 := n2_; have HB := n3_; clear n0_ n1_ n2_ n3_; (try clear hb); (try clear hb2); (try clear hk); (try clear hi); have hcz17_0 : w16.cell? ⟨gb171, 0, none⟩ = some (.int .i64 ((rd_T23 l0 x10_1).f0)) := (xC_ BK171.out 0).trans rfl; have hcz17_1 : w16.cell? ⟨gb171, 1, none⟩ = some (.int .i64 ((rd_T23 l0 x10_1).f1)) := (xC_ BK171.out 1).trans rfl; have hcz17_2 : w16.cell? ⟨gb171, 2, none⟩ = some (.int .i64 ((rd_T23 l0 x10_1).f2)) := (xC_ BK171.out 2).trans rfl; have hcz17_3 : w16.cell? ⟨gb171, 3, none⟩ = some (.string ((rd_T23 l0 x10_1).f3)) := (xC_ BK171.out 3).trans rfl; have hcz17_4 : w16.cell? ⟨gb171, 4, none⟩ = some (.string ((rd_T23 l0 x10_1).f4)) := (xC_ BK171.out 4).trans rfl; have hfz17_0 := xF_ BK171.out 0; have hfz17_1 := xF_ BK171.out 1; have hfz17_2 := xF_ BK171.out 2; have hfz17_3 := xF_ BK171.out 3; have hfz17_4 := xF_ BK171.out 4; have hnb18 := NB169_168.out; have hnc18 := NB168_169.out; have hcz19_0 : w16.cell? ⟨gb169, 0, none⟩ = some (.int .i64 x170000_1) := (xC_ BK169.out 0).trans rfl; have hcz19_1 : w16.cell? ⟨gb169, 1, none⟩ = some (.int .i64 x170001_1) := (xC_ BK169.out 1).trans rfl; have hcz19_2 : w16.cell? ⟨gb169, 2, none⟩ = some (.int .i64 x170002_1) := (xC_ BK169.out 2).trans rfl; have hcz19_3 : w16.cell? ⟨gb169, 3, none⟩ = some (.string x170003_1) := (xC_ BK169.out 3).trans rfl; have hcz19_4 : w16.cell? ⟨gb169, 4, none⟩ = some (.string x170004_1) := (xC_ BK169.out 4).trans rfl; have hfz19_0 := xF_ BK169.out 0; have hfz19_1 := xF_ BK169.out 1; have hfz19_2 := xF_ BK169.out 2; have hfz19_3 := xF_ BK169.out 3; have hfz19_4 := xF_ BK169.out 4) | (go_at_call 19; (with_reducible refine (ver_Compare.calls k1 ((rd_T23 l0 x10_1).f0) ((rd_T23 l0 x10_1).f1) ((rd_T23 l0 x10_1).f2) ((rd_T23 l0 x10_1).f3) ((rd_T23 l0 x10_1).f4) x170000_1 x170001_1 x170002_1 x170003_1 x170004_1 t173 _ A10.out).mono ?_); rintro e w20 ⟨rfl, hb⟩; have n0_ := Aside0.mk (blk_below (g := gb168) (o := .cells #[.int .i64 0, .int .i64 0, .int .i64 0, .string (⟨#[]⟩ : ByteArray), .string (⟨#[]⟩ : ByteArray)] 23 (0, 0)) (by (with_reducible repeat (first | apply xN_ | apply xD_ | apply xA_)); exact BK168.out) hb); have n1_ := Aside0.mk (blk_below (g := gb169) (o := .cells #[.int .i64 x170000_1, .int .i64 x170001_1, .int .i64 x170002_1, .string x170003_1, .string x170004_1] 23 (0, 0)) (by (with_reducible repeat (first | apply xN_ | apply xD_ | apply xA_)); exact BK169.out) hb); have n2_ := Aside0.mk (blk_below (g := gb171) (o := .cells #[.int .i64 ((rd_T23 l0 x10_1).f0), .int .i64 ((rd_T23 l0 x10_1).f1), .int .i64 ((rd_T23 l0 x10_1).f2), .string ((rd_T23 l0 x10_1).f3), .string ((rd_T23 l0 x10_1).f4)] 23 (0, 0)) (by (with_reducible repeat (first | apply xN_ | apply xD_ | apply xA_)); exact BK171.out) hb); have n3_ := Aside0.mk (below_step (by repeat (first | (with_reducible first | exact HB.out | apply yA_ | apply yN_ | apply yD_ | refine yS_ ?_ GE168.out | refine yS_ ?_ GE169.out | refine yS_ ?_ GE171.out) | exact HB.out)) hb); clear BK168; clear BK169; clear BK171; clear HB; have BK168 := n0_; have BK169 := n1_; have BK171 := n2_; have HB := n3_; clear n0_ n1_ n2_ n3_; (try clear hb); (try clear hb2); (try clear hk); (try clear hi); have hcz21_0 : w20.cell? ⟨gb171, 0, none⟩ = some (.int .i64 ((rd_T23 l0 x10_1).f0)) := (xC_ BK171.out 0).trans rfl; have hcz21_1 : w20.cell? ⟨gb171, 1, none⟩ = some (.int .i64 ((rd_T23 l0 x10_1).f1)) := (xC_ BK171.out 1).trans rfl; have hcz21_2 : w20.cell? ⟨gb171, 2, none⟩ = some (.int .i64 ((rd_T23 l0 x10_1).f2)) := (xC_ BK171.out 2).trans rfl; have hcz21_3 : w20.cell? ⟨gb171, 3, none⟩ = some (.string ((rd_T23 l0 x10_1).f3)) := (xC_ BK171.out 3).trans rfl; have hcz21_4 : w20.cell? ⟨gb171, 4, none⟩ = some (.string ((rd_T23 l0 x10_1).f4)) := (xC_ BK171.out 4).trans rfl; have hfz21_0 := xF_ BK171.out 0; have hfz21_1 := xF_ BK171.out 1; have hfz21_2 := xF_ BK171.out 2; have hfz21_3 := xF_ BK171.out 3; have hfz21_4 := xF_ BK171.out 4; have hcz22_0 : w20.cell? ⟨gb169, 0, none⟩ = some (.int .i64 x170000_1) := (xC_ BK169.out 0).trans rfl; have hcz22_1 : w20.cell? ⟨gb169, 1, none⟩ = some (.int .i64 x170001_1) := (xC_ BK169.out 1).trans rfl; have hcz22_2 : w20.cell? ⟨gb169, 2, none⟩ = some (.int .i64 x170002_1) := (xC_ BK169.out 2).trans rfl; have hcz22_3 : w20.cell? ⟨gb169, 3, none⟩ = some (.string x170003_1) := (xC_ BK169.out 3).trans rfl; have hcz22_4 : w20.cell? ⟨gb169, 4, none⟩ = some (.string x170004_1) := (xC_ BK169.out 4).trans rfl; have hfz22_0 := xF_ BK169.out 0; have hfz22_1 := xF_ BK169.out 1; have hfz22_2 := xF_ BK169.out 2; have hfz22_3 := xF_ BK169.out 3; have hfz22_4 := xF_ BK169.out 4))
         go_roundg k1
         case measure => have := HK1.out; omega
         case rel => exact ⟨(true), (wrap64 (x10_1 + 1)), ((rd_T23 l0 x10_1).f0), ((rd_T23 l0 x10_1).f1), ((rd_T23 l0 x10_1).f2), ((rd_T23 l0 x10_1).f3), ((rd_T23 l0 x10_1).f4), (by first | rfl | (simp; done) | (simp [*]; done)), (by first | rfl | (simp; done) | (simp [*]; done)), H', ⟨by have := HK1.out; omega⟩, ⟨by (with_reducible repeat (first | apply xN_ | apply xD_ | apply xA_)); refine xR_ ?_ NB168_169.out _; refine xR_ ?_ NB168_169.out _; refine xR_ ?_ NB168_169.out _; refine xR_ ?_ NB168_169.out _; refine xR_ ?_ NB168_169.out _; (with_reducible repeat (first | apply xN_ | apply xD_ | apply xA_)); exact BK168.out⟩, ⟨by (with_reducible repeat (first | apply xN_ | apply xD_ | apply xA_)); refine blk_put (cs := #[.int .i64 ((rd_T23 l0 x10_1).f0), .int .i64 ((rd_T23 l0 x10_1).f1), .int .i64 ((rd_T23 l0 x10_1).f2), .string ((rd_T23 l0 x10_1).f3), .string x170004_1]) ?_ 4 _ rfl; refine blk_put (cs := #[.int .i64 ((rd_T23 l0 x10_1).f0), .int .i64 ((rd_T23 l0 x10_1).f1), .int .i64 ((rd_T23 l0 x10_1).f2), .string x170003_1, .string x170004_1]) ?_ 3 _ rfl; refine blk_put (cs := #[.int .i64 ((rd_T23 l0 x10_1).f0), .int .i64 ((rd_T23 l0 x10_1).f1), .int .i64 x170002_1, .string x170003_1, .string x170004_1]) ?_ 2 _ rfl; refine blk_put (cs := #[.int .i64 ((rd_T23 l0 x10_1).f0), .int .i64 x170001_1, .int .i64 x170002_1, .string x170003_1, .string x170004_1]) ?_ 1 _ rfl; refine blk_put (cs := #[.int .i64 x170000_1, .int .i64 x170001_1, .int .i64 x170002_1, .string x170003_1, .string x170004_1]) ?_ 0 _ rfl; (with_reducible repeat (first | apply xN_ | apply xD_ | apply xA_)); exact BK169.out⟩, ⟨by repeat (first | (with_reducible first | exact HB.out | apply yA_ | apply yN_ | apply yD_ | refine yS_ ?_ GE168.out | refine yS_ ?_ GE169.out | refine yS_ ?_ GE171.out) | exact HB.out)⟩⟩
        ·rw [if_neg c11] at H
         have c11b0 : decide (0 < t173) = false := decide_eq_false c11
         clear c11
         have H' := Aside0.mk H
         clear H
         have p170 : 0 ≤ (x10_1 : Int) := of_decide_eq_true (by first | (with_reducible assumption) | assumption)
         have q170 : x10_1 < (l0.length : Int) := of_decide_eq_true (by first | (with_reducible assumption) | assumption)
         obtain ⟨ad170, e170, hx170_0, hx170_1, hx170_2, hx170_3, hx170_4⟩ := at_T23 HR0.out x10_1 p170 q170
         cases e170
         replace hx170_0 := (HB.out.cell (World.block_lt_of_cell? w _ hx170_0)).trans hx170_0
         replace hx170_1 := (HB.out.cell (World.block_lt_of_cell? w _ hx170_1)).trans hx170_1
         replace hx170_2 := (HB.out.cell (World.block_lt_of_cell? w _ hx170_2)).trans hx170_2
         replace hx170_3 := (HB.out.cell (World.block_lt_of_cell? w _ hx170_3)).trans hx170_3
         replace hx170_4 := (HB.out.cell (World.block_lt_of_cell? w _ hx170_4)).trans hx170_4
         replace p170 := eq_true p170
         replace q170 := eq_true q170
         go_wp2_with (first | ((with_reducible refine gate_dst (N := 7) rfl ?_); refine box_event ?hg (N := 7) ?hd (cs := #[.int .i64 0, .int .i64 0, .int .i64 0, .string (⟨#[]⟩ : ByteArray), .string (⟨#[]⟩ : ByteArray)]) (t := 23) ?hr ?_; (case hd => rfl); (case hg => rfl); (case hr => first | (go_simp; done) | (go_simp; rfl)); intro gb171 hg w23 hbox hb; have n0_ := Aside0.mk (blk_below (g := gb168) (o := .cells #[.int .i64 0, .int .i64 0, .int .i64 0, .string (⟨#[]⟩ : ByteArray), .string (⟨#[]⟩ : ByteArray)] 23 (0, 0)) (by (with_reducible repeat (first | apply xN_ | apply xD_ | apply xA_)); exact BK168.out) hb); have n1_ := Aside0.mk (blk_below (g := gb169) (o := .cells #[.int .i64 x170000_1, .int .i64 x170001_1, .int .i64 x170002_1, .string x170003_1, .string x170004_1] 23 (0, 0)) (by (with_reducible repeat (first | apply xN_ | apply xD_ | apply xA_)); exact BK169.out) hb); have n2_ := Aside0.mk (below_step (by repeat (first | (with_reducible first | exact HB.out | apply yA_ | apply yN_ | apply yD_ | refine yS_ ?_ GE168.out | refine yS_ ?_ GE169.out) | exact HB.out)) hb); have n3_ := Aside0.mk (hbox); have n4_ := Aside0.mk ((by rw [hg]; exact (below_size (by repeat (first | (with_reducible first | exact HB.out | apply yA_ | apply yN_ | apply yD_ | refine yS_ ?_ GE168.out | refine yS_ ?_ GE169.out) | exact HB.out))) : w.heap.size ≤ gb171)); have n5_ := Aside0.mk ((by rw [hg]; exact (below_size (by repeat (first | (with_reducible first | exact HB.out | apply yA_ | apply yN_ | apply yD_ | refine yS_ ?_ GE168.out | refine yS_ ?_ GE169.out) | exact HB.out))) : w.heap.size ≤ gb171)); have n6_ := Aside0.mk ((by rw [hg]; exact Nat.ne_of_lt (blk_lt (g := gb168) (o := .cells #[.int .i64 0, .int .i64 0, .int .i64 0, .string (⟨#[]⟩ : ByteArray), .string (⟨#[]⟩ : ByteArray)] 23 (0, 0)) (by (with_reducible repeat (first | apply xN_ | apply xD_ | apply xA_)); exact BK168.out)) : gb168 ≠ gb171)); have n7_ := Aside0.mk ((by rw [hg]; exact Nat.ne_of_gt (blk_lt (g := gb168) (o := .cells #[.int .i64 0, .int .i64 0, .int .i64 0, .string (⟨#[]⟩ : ByteArray), .string (⟨#[]⟩ : ByteArray)] 23 (0, 0)) (by (with_reducible repeat (first | apply xN_ | apply xD_ | apply xA_)); exact BK168.out)) : gb171 ≠ gb168)); have n8_ := Aside0.mk ((by rw [hg]; exact Nat.ne_of_lt (blk_lt (g := gb169) (o := .cells #[.int .i64 x170000_1, .int .i64 x170001_1, .int .i64 x170002_1, .string x170003_1, .string x170004_1] 23 (0, 0)) (by (with_reducible repeat (first | apply xN_ | apply xD_ | apply xA_)); exact BK169.out)) : gb169 ≠ gb171)); have n9_ := Aside0.mk ((by rw [hg]; exact Nat.ne_of_gt (blk_lt (g := gb169) (o := .cells #[.int .i64 x170000_1, .int .i64 x170001_1, .int .i64 x170002_1, .string x170003_1, .string x170004_1] 23 (0, 0)) (by (with_reducible repeat (first | apply xN_ | apply xD_ | apply xA_)); exact BK169.out)) : gb171 ≠ gb169)); clear BK168; clear BK169; clear HB; have BK168 := n0_; have BK169 := n1_; have HB := n2_; have BK171 := n3_; have GW171 := n4_; have GE171 := n5_; have NB168_171 := n6_; have NB171_168 := n7_; have NB169_171 := n8_; have NB171_169 := n9_; clear n0_ n1_ n2_ n3_ n4_ n5_ n6_ n7_ n8_ n9_; clear hb hbox hg; have hnb24 := NB171_168.out; have hnc24 := NB168_171.out; have hnb25 := NB171_169.out; have hnc25 := NB169_171.out; have hcz26_0 : w23.cell? ⟨gb171, 0, none⟩ = some (.int .i64 0) := (xC_ BK171.out 0).trans rfl; have hcz26_1 : w23.cell? ⟨gb171, 1, none⟩ = some (.int .i64 0) := (xC_ BK171.out 1).trans rfl; have hcz26_2 : w23.cell? ⟨gb171, 2, none⟩ = some (.int .i64 0) := (xC_ BK171.out 2).trans rfl; have hcz26_3 : w23.cell? ⟨gb171, 3, none⟩ = some (.string (⟨#[]⟩ : ByteArray)) := (xC_ BK171.out 3).trans rfl; have hcz26_4 : w23.cell? ⟨gb171, 4, none⟩ = some (.string (⟨#[]⟩ : ByteArray)) := (xC_ BK171.out 4).trans rfl; have hfz26_0 := xF_ BK171.out 0; have hfz26_1 := xF_ BK171.out 1; have hfz26_2 := xF_ BK171.out 2; have hfz26_3 := xF_ BK171.out 3; have hfz26_4 := xF_ BK171.out 4) | ((with_reducible refine gate_callee (f := 13) rfl ?_); refine goesL_ (some 15) rfl rfl Tryd.func13 (by kernel_rfl) rfl #[.agg #[.int .i64 ((rd_T23 l0 x10_1).f0), .int .i64 ((rd_T23 l0 x10_1).f1), .int .i64 ((rd_T23 l0 x10_1).f2), .string ((rd_T23 l0 x10_1).f3), .string ((rd_T23 l0 x10_1).f4)]] rfl (by (try simp only [List.map_toArray, List.map_cons, List.map_nil]); first | done | rfl) ?_; (with_reducible refine (ver_Check.calls ((rd_T23 l0 x10_1).f0) ((rd_T23 l0 x10_1).f1) ((rd_T23 l0 x10_1).f2) ((rd_T23 l0 x10_1).f3) ((rd_T23 l0 x10_1).f4) true _ A7.out).mono ?_); rintro e w27 ⟨rfl, hb⟩; refine ⟨_, rfl, ?_⟩; have n0_ := Aside0.mk (blk_below (g := gb168) (o := .cells #[.int .i64 0, .int .i64 0, .int .i64 0, .string (⟨#[]⟩ : ByteArray), .string (⟨#[]⟩ : ByteArray)] 23 (0, 0)) (by (with_reducible repeat (first | apply xN_ | apply xD_ | apply xA_)); refine xR_ ?_ NB168_171.out _; refine xR_ ?_ NB168_171.out _; refine xR_ ?_ NB168_171.out _; refine xR_ ?_ NB168_171.out _; refine xR_ ?_ NB168_171.out _; (with_reducible repeat (first | apply xN_ | apply xD_ | apply xA_)); exact BK168.out) hb); have n1_ := Aside0.mk (blk_below (g := gb169) (o := .cells #[.int .i64 x170000_1, .int .i64 x170001_1, .int .i64 x170002_1, .string x170003_1, .string x170004_1] 23 (0, 0)) (by (with_reducible repeat (first | apply xN_ | apply xD_ | apply xA_)); refine xR_ ?_ NB169_171.out _; refine xR_ ?_ NB169_171.out _; refine xR_ ?_ NB169_171.out _; refine xR_ ?_ NB169_171.out _; refine xR_ ?_ NB169_171.out _; (with_reducible repeat (first | apply xN_ | apply xD_ | apply xA_)); exact BK169.out) hb); have n2_ := Aside0.mk (blk_below (g := gb171) (o := .cells #[.int .i64 ((rd_T23 l0 x10_1).f0), .int .i64 ((rd_T23 l0 x10_1).f1), .int .i64 ((rd_T23 l0 x10_1).f2), .string ((rd_T23 l0 x10_1).f3), .string ((rd_T23 l0 x10_1).f4)] 23 (0, 0)) (by (with_reducible repeat (first | apply xN_ | apply xD_ | apply xA_)); refine blk_put (cs := #[.int .i64 ((rd_T23 l0 x10_1).f0), .int .i64 ((rd_T23 l0 x10_1).f1), .int .i64 ((rd_T23 l0 x10_1).f2), .string ((rd_T23 l0 x10_1).f3), .string (⟨#[]⟩ : ByteArray)]) ?_ 4 _ rfl; refine blk_put (cs := #[.int .i64 ((rd_T23 l0 x10_1).f0), .int .i64 ((rd_T23 l0 x10_1).f1), .int .i64 ((rd_T23 l0 x10_1).f2), .string (⟨#[]⟩ : ByteArray), .string (⟨#[]⟩ : ByteArray)]) ?_ 3 _ rfl; refine blk_put (cs := #[.int .i64 ((rd_T23 l0 x10_1).f0), .int .i64 ((rd_T23 l0 x10_1).f1), .int .i64 0, .string (⟨#[]⟩ : ByteArray), .string (⟨#[]⟩ : ByteArray)]) ?_ 2 _ rfl; refine blk_put (cs := #[.int .i64 ((rd_T23 l0 x10_1).f0), .int .i64 0, .int .i64 0, .string (⟨#[]⟩ : ByteArray), .string (⟨#[]⟩ : ByteArray)]) ?_ 1 _ rfl; refine blk_put (cs := #[.int .i64 0, .int .i64 0, .int .i64 0, .string (⟨#[]⟩ : ByteArray), .string (⟨#[]⟩ : ByteArray)]) ?_ 0 _ rfl; (with_reducible repeat (first | apply xN_ | apply xD_ | apply xA_)); exact BK171.out) hb); have n3_ := Aside0.mk (below_step (by repeat (first | (with_reducible first | exact HB.out | apply yA_ | apply yN_ | apply yD_ | refine yS_ ?_ GE168.out | refine yS_ ?_ GE169.out | refine yS_ ?_ GE171.out) | exact HB.out)) hb); clear BK168; clear BK169; clear BK171; clear HB; have BK168 := n0_; have BK169 := n1_; have BK171 := n2_; have HB := n3_; clear n0_ n1_ n2_ n3_; (try clear hb); (try clear hb2); (try clear hk); (try clear hi); have hcz28_0 : w27.cell? ⟨gb171, 0, none⟩ = some (.int .i64 ((rd_T23 l0 x10_1).f0)) := (xC_ BK171.out 0).trans rfl; have hcz28_1 : w27.cell? ⟨gb171, 1, none⟩ = some (.int .i64 ((rd_T23 l0 x10_1).f1)) := (xC_ BK171.out 1).trans rfl; have hcz28_2 : w27.cell? ⟨gb171, 2, none⟩ = some (.int .i64 ((rd_T23 l0 x10_1).f2)) := (xC_ BK171.out 2).trans rfl; have hcz28_3 : w27.cell? ⟨gb171, 3, none⟩ = some (.string ((rd_T23 l0 x10_1).f3)) := (xC_ BK171.out 3).trans rfl; have hcz28_4 : w27.cell? ⟨gb171, 4, none⟩ = some (.string ((rd_T23 l0 x10_1).f4)) := (xC_ BK171.out 4).trans rfl; have hfz28_0 := xF_ BK171.out 0; have hfz28_1 := xF_ BK171.out 1; have hfz28_2 := xF_ BK171.out 2; have hfz28_3 := xF_ BK171.out 3; have hfz28_4 := xF_ BK171.out 4; have hnb29 := NB169_168.out; have hnc29 := NB168_169.out; have hcz30_0 : w27.cell? ⟨gb169, 0, none⟩ = some (.int .i64 x170000_1) := (xC_ BK169.out 0).trans rfl; have hcz30_1 : w27.cell? ⟨gb169, 1, none⟩ = some (.int .i64 x170001_1) := (xC_ BK169.out 1).trans rfl; have hcz30_2 : w27.cell? ⟨gb169, 2, none⟩ = some (.int .i64 x170002_1) := (xC_ BK169.out 2).trans rfl; have hcz30_3 : w27.cell? ⟨gb169, 3, none⟩ = some (.string x170003_1) := (xC_ BK169.out 3).trans rfl; have hcz30_4 : w27.cell? ⟨gb169, 4, none⟩ = some (.string x170004_1) := (xC_ BK169.out 4).trans rfl; have hfz30_0 := xF_ BK169.out 0; have hfz30_1 := xF_ BK169.out 1; have hfz30_2 := xF_ BK169.out 2; have hfz30_3 := xF_ BK169.out 3; have hfz30_4 := xF_ BK169.out 4) | (go_at_call 19; (with_reducible refine (ver_Compare.calls k1 ((rd_T23 l0 x10_1).f0) ((rd_T23 l0 x10_1).f1) ((rd_T23 l0 x10_1).f2) ((rd_T23 l0 x10_1).f3) ((rd_T23 l0 x10_1).f4) x170000_1 x170001_1 x170002_1 x170003_1 x170004_1 t173 _ A10.out).mono ?_); rintro e w31 ⟨rfl, hb⟩; have n0_ := Aside0.mk (blk_below (g := gb168) (o := .cells #[.int .i64 0, .int .i64 0, .int .i64 0, .string (⟨#[]⟩ : ByteArray), .string (⟨#[]⟩ : ByteArray)] 23 (0, 0)) (by (with_reducible repeat (first | apply xN_ | apply xD_ | apply xA_)); exact BK168.out) hb); have n1_ := Aside0.mk (blk_below (g := gb169) (o := .cells #[.int .i64 x170000_1, .int .i64 x170001_1, .int .i64 x170002_1, .string x170003_1, .string x170004_1] 23 (0, 0)) (by (with_reducible repeat (first | apply xN_ | apply xD_ | apply xA_)); exact BK169.out) hb); have n2_ := Aside0.mk (blk_below (g := gb171) (o := .cells #[.int .i64 ((rd_T23 l0 x10_1).f0), .int .i64 ((rd_T23 l0 x10_1).f1), .int .i64 ((rd_T23 l0 x10_1).f2), .string ((rd_T23 l0 x10_1).f3), .string ((rd_T23 l0 x10_1).f4)] 23 (0, 0)) (by (with_reducible repeat (first | apply xN_ | apply xD_ | apply xA_)); exact BK171.out) hb); have n3_ := Aside0.mk (below_step (by repeat (first | (with_reducible first | exact HB.out | apply yA_ | apply yN_ | apply yD_ | refine yS_ ?_ GE168.out | refine yS_ ?_ GE169.out | refine yS_ ?_ GE171.out) | exact HB.out)) hb); clear BK168; clear BK169; clear BK171; clear HB; have BK168 := n0_; have BK169 := n1_; have BK171 := n2_; have HB := n3_; clear n0_ n1_ n2_ n3_; (try clear hb); (try clear hb2); (try clear hk); (try clear hi)))
         go_roundg k1
         case measure => have := HK1.out; omega
         case rel => exact ⟨(true), (wrap64 (x10_1 + 1)), (x170000_1), (x170001_1), (x170002_1), (x170003_1), (x170004_1), (by first | rfl | (simp; done) | (simp [*]; done)), (by first | rfl | (simp; done) | (simp [*]; done)), H', ⟨by have := HK1.out; omega⟩, ⟨by (with_reducible repeat (first | apply xN_ | apply xD_ | apply xA_)); exact BK168.out⟩, ⟨by (with_reducible repeat (first | apply xN_ | apply xD_ | apply xA_)); exact BK169.out⟩, ⟨by repeat (first | (with_reducible first | exact HB.out | apply yA_ | apply yN_ | apply yD_ | refine yS_ ?_ GE168.out | refine yS_ ?_ GE169.out | refine yS_ ?_ GE171.out) | exact HB.out)⟩⟩
       ·replace c9 := Bool.eq_false_iff.mpr c9
        subst c9
        have H1 : (ver_Max.l0 k1 true l0 (l0.length : Int) (wrap64 (x10_1 + 1)) ((rd_T23 l0 x10_1).f0) ((rd_T23 l0 x10_1).f1) ((rd_T23 l0 x10_1).f2) ((rd_T23 l0 x10_1).f3) ((rd_T23 l0 x10_1).f4)) = some (r1, r2, r3, r4, r5, r6) := by rw [if_neg (show ¬ (false = true) by decide)] at H; exact H
        clear H
        have H := H1
        clear H1
        have H' := Aside0.mk H
        clear H
        have p170 : 0 ≤ (x10_1 : Int) := of_decide_eq_true (by first | (with_reducible assumption) | assumption)
        have q170 : x10_1 < (l0.length : Int) := of_decide_eq_true (by first | (with_reducible assumption) | assumption)
        obtain ⟨ad170, e170, hx170_0, hx170_1, hx170_2, hx170_3, hx170_4⟩ := at_T23 HR0.out x10_1 p170 q170
        cases e170
        replace hx170_0 := (HB.out.cell (World.block_lt_of_cell? w _ hx170_0)).trans hx170_0
        replace hx170_1 := (HB.out.cell (World.block_lt_of_cell? w _ hx170_1)).trans hx170_1
        replace hx170_2 := (HB.out.cell (World.block_lt_of_cell? w _ hx170_2)).trans hx170_2
        replace hx170_3 := (HB.out.cell (World.block_lt_of_cell? w _ hx170_3)).trans hx170_3
        replace hx170_4 := (HB.out.cell (World.block_lt_of_cell? w _ hx170_4)).trans hx170_4
        replace p170 := eq_true p170
        replace q170 := eq_true q170
        go_wp2_with (first | ((with_reducible refine gate_dst (N := 7) rfl ?_); refine box_event ?hg (N := 7) ?hd (cs := #[.int .i64 0, .int .i64 0, .int .i64 0, .string (⟨#[]⟩ : ByteArray), .string (⟨#[]⟩ : ByteArray)]) (t := 23) ?hr ?_; (case hd => rfl); (case hg => rfl); (case hr => first | (go_simp; done) | (go_simp; rfl)); intro gb171 hg w32 hbox hb; have n0_ := Aside0.mk (blk_below (g := gb168) (o := .cells #[.int .i64 0, .int .i64 0, .int .i64 0, .string (⟨#[]⟩ : ByteArray), .string (⟨#[]⟩ : ByteArray)] 23 (0, 0)) (by (with_reducible repeat (first | apply xN_ | apply xD_ | apply xA_)); exact BK168.out) hb); have n1_ := Aside0.mk (blk_below (g := gb169) (o := .cells #[.int .i64 x170000_1, .int .i64 x170001_1, .int .i64 x170002_1, .string x170003_1, .string x170004_1] 23 (0, 0)) (by (with_reducible repeat (first | apply xN_ | apply xD_ | apply xA_)); exact BK169.out) hb); have n2_ := Aside0.mk (below_step (by repeat (first | (with_reducible first | exact HB.out | apply yA_ | apply yN_ | apply yD_ | refine yS_ ?_ GE168.out | refine yS_ ?_ GE169.out) | exact HB.out)) hb); have n3_ := Aside0.mk (hbox); have n4_ := Aside0.mk ((by rw [hg]; exact (below_size (by repeat (first | (with_reducible first | exact HB.out | apply yA_ | apply yN_ | apply yD_ | refine yS_ ?_ GE168.out | refine yS_ ?_ GE169.out) | exact HB.out))) : w.heap.size ≤ gb171)); have n5_ := Aside0.mk ((by rw [hg]; exact (below_size (by repeat (first | (with_reducible first | exact HB.out | apply yA_ | apply yN_ | apply yD_ | refine yS_ ?_ GE168.out | refine yS_ ?_ GE169.out) | exact HB.out))) : w.heap.size ≤ gb171)); have n6_ := Aside0.mk ((by rw [hg]; exact Nat.ne_of_lt (blk_lt (g := gb168) (o := .cells #[.int .i64 0, .int .i64 0, .int .i64 0, .string (⟨#[]⟩ : ByteArray), .string (⟨#[]⟩ : ByteArray)] 23 (0, 0)) (by (with_reducible repeat (first | apply xN_ | apply xD_ | apply xA_)); exact BK168.out)) : gb168 ≠ gb171)); have n7_ := Aside0.mk ((by rw [hg]; exact Nat.ne_of_gt (blk_lt (g := gb168) (o := .cells #[.int .i64 0, .int .i64 0, .int .i64 0, .string (⟨#[]⟩ : ByteArray), .string (⟨#[]⟩ : ByteArray)] 23 (0, 0)) (by (with_reducible repeat (first | apply xN_ | apply xD_ | apply xA_)); exact BK168.out)) : gb171 ≠ gb168)); have n8_ := Aside0.mk ((by rw [hg]; exact Nat.ne_of_lt (blk_lt (g := gb169) (o := .cells #[.int .i64 x170000_1, .int .i64 x170001_1, .int .i64 x170002_1, .string x170003_1, .string x170004_1] 23 (0, 0)) (by (with_reducible repeat (first | apply xN_ | apply xD_ | apply xA_)); exact BK169.out)) : gb169 ≠ gb171)); have n9_ := Aside0.mk ((by rw [hg]; exact Nat.ne_of_gt (blk_lt (g := gb169) (o := .cells #[.int .i64 x170000_1, .int .i64 x170001_1, .int .i64 x170002_1, .string x170003_1, .string x170004_1] 23 (0, 0)) (by (with_reducible repeat (first | apply xN_ | apply xD_ | apply xA_)); exact BK169.out)) : gb171 ≠ gb169)); clear BK168; clear BK169; clear HB; have BK168 := n0_; have BK169 := n1_; have HB := n2_; have BK171 := n3_; have GW171 := n4_; have GE171 := n5_; have NB168_171 := n6_; have NB171_168 := n7_; have NB169_171 := n8_; have NB171_169 := n9_; clear n0_ n1_ n2_ n3_ n4_ n5_ n6_ n7_ n8_ n9_; clear hb hbox hg; have hnb33 := NB171_168.out; have hnc33 := NB168_171.out; have hnb34 := NB171_169.out; have hnc34 := NB169_171.out; have hcz35_0 : w32.cell? ⟨gb171, 0, none⟩ = some (.int .i64 0) := (xC_ BK171.out 0).trans rfl; have hcz35_1 : w32.cell? ⟨gb171, 1, none⟩ = some (.int .i64 0) := (xC_ BK171.out 1).trans rfl; have hcz35_2 : w32.cell? ⟨gb171, 2, none⟩ = some (.int .i64 0) := (xC_ BK171.out 2).trans rfl; have hcz35_3 : w32.cell? ⟨gb171, 3, none⟩ = some (.string (⟨#[]⟩ : ByteArray)) := (xC_ BK171.out 3).trans rfl; have hcz35_4 : w32.cell? ⟨gb171, 4, none⟩ = some (.string (⟨#[]⟩ : ByteArray)) := (xC_ BK171.out 4).trans rfl; have hfz35_0 := xF_ BK171.out 0; have hfz35_1 := xF_ BK171.out 1; have hfz35_2 := xF_ BK171.out 2; have hfz35_3 := xF_ BK171.out 3; have hfz35_4 := xF_ BK171.out 4) | ((with_reducible refine gate_callee (f := 13) rfl ?_); refine goesL_ (some 15) rfl rfl Tryd.func13 (by kernel_rfl) rfl #[.agg #[.int .i64 ((rd_T23 l0 x10_1).f0), .int .i64 ((rd_T23 l0 x10_1).f1), .int .i64 ((rd_T23 l0 x10_1).f2), .string ((rd_T23 l0 x10_1).f3), .string ((rd_T23 l0 x10_1).f4)]] rfl (by (try simp only [List.map_toArray, List.map_cons, List.map_nil]); first | done | rfl) ?_; (with_reducible refine (ver_Check.calls ((rd_T23 l0 x10_1).f0) ((rd_T23 l0 x10_1).f1) ((rd_T23 l0 x10_1).f2) ((rd_T23 l0 x10_1).f3) ((rd_T23 l0 x10_1).f4) true _ A7.out).mono ?_); rintro e w36 ⟨rfl, hb⟩; refine ⟨_, rfl, ?_⟩; have n0_ := Aside0.mk (blk_below (g := gb168) (o := .cells #[.int .i64 0, .int .i64 0, .int .i64 0, .string (⟨#[]⟩ : ByteArray), .string (⟨#[]⟩ : ByteArray)] 23 (0, 0)) (by (with_reducible repeat (first | apply xN_ | apply xD_ | apply xA_)); refine xR_ ?_ NB168_171.out _; refine xR_ ?_ NB168_171.out _; refine xR_ ?_ NB168_171.out _; refine xR_ ?_ NB168_171.out _; refine xR_ ?_ NB168_171.out _; (with_reducible repeat (first | apply xN_ | apply xD_ | apply xA_)); exact BK168.out) hb); have n1_ := Aside0.mk (blk_below (g := gb169) (o := .cells #[.int .i64 x170000_1, .int .i64 x170001_1, .int .i64 x170002_1, .string x170003_1, .string x170004_1] 23 (0, 0)) (by (with_reducible repeat (first | apply xN_ | apply xD_ | apply xA_)); refine xR_ ?_ NB169_171.out _; refine xR_ ?_ NB169_171.out _; refine xR_ ?_ NB169_171.out _; refine xR_ ?_ NB169_171.out _; refine xR_ ?_ NB169_171.out _; (with_reducible repeat (first | apply xN_ | apply xD_ | apply xA_)); exact BK169.out) hb); have n2_ := Aside0.mk (blk_below (g := gb171) (o := .cells #[.int .i64 ((rd_T23 l0 x10_1).f0), .int .i64 ((rd_T23 l0 x10_1).f1), .int .i64 ((rd_T23 l0 x10_1).f2), .string ((rd_T23 l0 x10_1).f3), .string ((rd_T23 l0 x10_1).f4)] 23 (0, 0)) (by (with_reducible repeat (first | apply xN_ | apply xD_ | apply xA_)); refine blk_put (cs := #[.int .i64 ((rd_T23 l0 x10_1).f0), .int .i64 ((rd_T23 l0 x10_1).f1), .int .i64 ((rd_T23 l0 x10_1).f2), .string ((rd_T23 l0 x10_1).f3), .string (⟨#[]⟩ : ByteArray)]) ?_ 4 _ rfl; refine blk_put (cs := #[.int .i64 ((rd_T23 l0 x10_1).f0), .int .i64 ((rd_T23 l0 x10_1).f1), .int .i64 ((rd_T23 l0 x10_1).f2), .string (⟨#[]⟩ : ByteArray), .string (⟨#[]⟩ : ByteArray)]) ?_ 3 _ rfl; refine blk_put (cs := #[.int .i64 ((rd_T23 l0 x10_1).f0), .int .i64 ((rd_T23 l0 x10_1).f1), .int .i64 0, .string (⟨#[]⟩ : ByteArray), .string (⟨#[]⟩ : ByteArray)]) ?_ 2 _ rfl; refine blk_put (cs := #[.int .i64 ((rd_T23 l0 x10_1).f0), .int .i64 0, .int .i64 0, .string (⟨#[]⟩ : ByteArray), .string (⟨#[]⟩ : ByteArray)]) ?_ 1 _ rfl; refine blk_put (cs := #[.int .i64 0, .int .i64 0, .int .i64 0, .string (⟨#[]⟩ : ByteArray), .string (⟨#[]⟩ : ByteArray)]) ?_ 0 _ rfl; (with_reducible repeat (first | apply xN_ | apply xD_ | apply xA_)); exact BK171.out) hb); have n3_ := Aside0.mk (below_step (by repeat (first | (with_reducible first | exact HB.out | apply yA_ | apply yN_ | apply yD_ | refine yS_ ?_ GE168.out | refine yS_ ?_ GE169.out | refine yS_ ?_ GE171.out) | exact HB.out)) hb); clear BK168; clear BK169; clear BK171; clear HB; have BK168 := n0_; have BK169 := n1_; have BK171 := n2_; have HB := n3_; clear n0_ n1_ n2_ n3_; (try clear hb); (try clear hb2); (try clear hk); (try clear hi); have hcz37_0 : w36.cell? ⟨gb171, 0, none⟩ = some (.int .i64 ((rd_T23 l0 x10_1).f0)) := (xC_ BK171.out 0).trans rfl; have hcz37_1 : w36.cell? ⟨gb171, 1, none⟩ = some (.int .i64 ((rd_T23 l0 x10_1).f1)) := (xC_ BK171.out 1).trans rfl; have hcz37_2 : w36.cell? ⟨gb171, 2, none⟩ = some (.int .i64 ((rd_T23 l0 x10_1).f2)) := (xC_ BK171.out 2).trans rfl; have hcz37_3 : w36.cell? ⟨gb171, 3, none⟩ = some (.string ((rd_T23 l0 x10_1).f3)) := (xC_ BK171.out 3).trans rfl; have hcz37_4 : w36.cell? ⟨gb171, 4, none⟩ = some (.string ((rd_T23 l0 x10_1).f4)) := (xC_ BK171.out 4).trans rfl; have hfz37_0 := xF_ BK171.out 0; have hfz37_1 := xF_ BK171.out 1; have hfz37_2 := xF_ BK171.out 2; have hfz37_3 := xF_ BK171.out 3; have hfz37_4 := xF_ BK171.out 4; have hnb38 := NB169_168.out; have hnc38 := NB168_169.out; have hcz39_0 : w36.cell? ⟨gb169, 0, none⟩ = some (.int .i64 x170000_1) := (xC_ BK169.out 0).trans rfl; have hcz39_1 : w36.cell? ⟨gb169, 1, none⟩ = some (.int .i64 x170001_1) := (xC_ BK169.out 1).trans rfl; have hcz39_2 : w36.cell? ⟨gb169, 2, none⟩ = some (.int .i64 x170002_1) := (xC_ BK169.out 2).trans rfl; have hcz39_3 : w36.cell? ⟨gb169, 3, none⟩ = some (.string x170003_1) := (xC_ BK169.out 3).trans rfl; have hcz39_4 : w36.cell? ⟨gb169, 4, none⟩ = some (.string x170004_1) := (xC_ BK169.out 4).trans rfl; have hfz39_0 := xF_ BK169.out 0; have hfz39_1 := xF_ BK169.out 1; have hfz39_2 := xF_ BK169.out 2; have hfz39_3 := xF_ BK169.out 3; have hfz39_4 := xF_ BK169.out 4))
        go_roundg k1
        case measure => have := HK1.out; omega
        case rel => exact ⟨(true), (wrap64 (x10_1 + 1)), ((rd_T23 l0 x10_1).f0), ((rd_T23 l0 x10_1).f1), ((rd_T23 l0 x10_1).f2), ((rd_T23 l0 x10_1).f3), ((rd_T23 l0 x10_1).f4), (by first | rfl | (simp; done) | (simp [*]; done)), (by first | rfl | (simp; done) | (simp [*]; done)), H', ⟨by have := HK1.out; omega⟩, ⟨by (with_reducible repeat (first | apply xN_ | apply xD_ | apply xA_)); refine xR_ ?_ NB168_169.out _; refine xR_ ?_ NB168_169.out _; refine xR_ ?_ NB168_169.out _; refine xR_ ?_ NB168_169.out _; refine xR_ ?_ NB168_169.out _; (with_reducible repeat (first | apply xN_ | apply xD_ | apply xA_)); exact BK168.out⟩, ⟨by (with_reducible repeat (first | apply xN_ | apply xD_ | apply xA_)); refine blk_put (cs := #[.int .i64 ((rd_T23 l0 x10_1).f0), .int .i64 ((rd_T23 l0 x10_1).f1), .int .i64 ((rd_T23 l0 x10_1).f2), .string ((rd_T23 l0 x10_1).f3), .string x170004_1]) ?_ 4 _ rfl; refine blk_put (cs := #[.int .i64 ((rd_T23 l0 x10_1).f0), .int .i64 ((rd_T23 l0 x10_1).f1), .int .i64 ((rd_T23 l0 x10_1).f2), .string x170003_1, .string x170004_1]) ?_ 3 _ rfl; refine blk_put (cs := #[.int .i64 ((rd_T23 l0 x10_1).f0), .int .i64 ((rd_T23 l0 x10_1).f1), .int .i64 x170002_1, .string x170003_1, .string x170004_1]) ?_ 2 _ rfl; refine blk_put (cs := #[.int .i64 ((rd_T23 l0 x10_1).f0), .int .i64 x170001_1, .int .i64 x170002_1, .string x170003_1, .string x170004_1]) ?_ 1 _ rfl; refine blk_put (cs := #[.int .i64 x170000_1, .int .i64 x170001_1, .int .i64 x170002_1, .string x170003_1, .string x170004_1]) ?_ 0 _ rfl; (with_reducible repeat (first | apply xN_ | apply xD_ | apply xA_)); exact BK169.out⟩, ⟨by repeat (first | (with_reducible first | exact HB.out | apply yA_ | apply yN_ | apply yD_ | refine yS_ ?_ GE168.out | refine yS_ ?_ GE169.out | refine yS_ ?_ GE171.out) | exact HB.out)⟩⟩
      ·replace c8 := Bool.eq_false_iff.mpr c8
       subst c8
       have H1 : (ver_Max.l0 k1 x5_1 l0 (l0.length : Int) (wrap64 (x10_1 + 1)) x170000_1 x170001_1 x170002_1 x170003_1 x170004_1) = some (r1, r2, r3, r4, r5, r6) := by rw [if_neg (show ¬ (false = true) by decide)] at H; exact H
       clear H
       have H := H1
       clear H1
       have H' := Aside0.mk H
       clear H
       have p170 : 0 ≤ (x10_1 : Int) := of_decide_eq_true (by first | (with_reducible assumption) | assumption)
       have q170 : x10_1 < (l0.length : Int) := of_decide_eq_true (by first | (with_reducible assumption) | assumption)
       obtain ⟨ad170, e170, hx170_0, hx170_1, hx170_2, hx170_3, hx170_4⟩ := at_T23 HR0.out x10_1 p170 q170
       cases e170
       replace hx170_0 := (HB.out.cell (World.block_lt_of_cell? w _ hx170_0)).trans hx170_0
       replace hx170_1 := (HB.out.cell (World.block_lt_of_cell? w _ hx170_1)).trans hx170_1
       replace hx170_2 := (HB.out.cell (World.block_lt_of_cell? w _ hx170_2)).trans hx170_2
       replace hx170_3 := (HB.out.cell (World.block_lt_of_cell? w _ hx170_3)).trans hx170_3
       replace hx170_4 := (HB.out.cell (World.block_lt_of_cell? w _ hx170_4)).trans hx170_4
       replace p170 := eq_true p170
       replace q170 := eq_true q170
       go_wp2_with (first | ((with_reducible refine gate_dst (N := 7) rfl ?_); refine box_event ?hg (N := 7) ?hd (cs := #[.int .i64 0, .int .i64 0, .int .i64 0, .string (⟨#[]⟩ : ByteArray), .string (⟨#[]⟩ : ByteArray)]) (t := 23) ?hr ?_; (case hd => rfl); (case hg => rfl); (case hr => first | (go_simp; done) | (go_simp; rfl)); intro gb171 hg w40 hbox hb; have n0_ := Aside0.mk (blk_below (g := gb168) (o := .cells #[.int .i64 0, .int .i64 0, .int .i64 0, .string (⟨#[]⟩ : ByteArray), .string (⟨#[]⟩ : ByteArray)] 23 (0, 0)) (by (with_reducible repeat (first | apply xN_ | apply xD_ | apply xA_)); exact BK168.out) hb); have n1_ := Aside0.mk (blk_below (g := gb169) (o := .cells #[.int .i64 x170000_1, .int .i64 x170001_1, .int .i64 x170002_1, .string x170003_1, .string x170004_1] 23 (0, 0)) (by (with_reducible repeat (first | apply xN_ | apply xD_ | apply xA_)); exact BK169.out) hb); have n2_ := Aside0.mk (below_step (by repeat (first | (with_reducible first | exact HB.out | apply yA_ | apply yN_ | apply yD_ | refine yS_ ?_ GE168.out | refine yS_ ?_ GE169.out) | exact HB.out)) hb); have n3_ := Aside0.mk (hbox); have n4_ := Aside0.mk ((by rw [hg]; exact (below_size (by repeat (first | (with_reducible first | exact HB.out | apply yA_ | apply yN_ | apply yD_ | refine yS_ ?_ GE168.out | refine yS_ ?_ GE169.out) | exact HB.out))) : w.heap.size ≤ gb171)); have n5_ := Aside0.mk ((by rw [hg]; exact (below_size (by repeat (first | (with_reducible first | exact HB.out | apply yA_ | apply yN_ | apply yD_ | refine yS_ ?_ GE168.out | refine yS_ ?_ GE169.out) | exact HB.out))) : w.heap.size ≤ gb171)); have n6_ := Aside0.mk ((by rw [hg]; exact Nat.ne_of_lt (blk_lt (g := gb168) (o := .cells #[.int .i64 0, .int .i64 0, .int .i64 0, .string (⟨#[]⟩ : ByteArray), .string (⟨#[]⟩ : ByteArray)] 23 (0, 0)) (by (with_reducible repeat (first | apply xN_ | apply xD_ | apply xA_)); exact BK168.out)) : gb168 ≠ gb171)); have n7_ := Aside0.mk ((by rw [hg]; exact Nat.ne_of_gt (blk_lt (g := gb168) (o := .cells #[.int .i64 0, .int .i64 0, .int .i64 0, .string (⟨#[]⟩ : ByteArray), .string (⟨#[]⟩ : ByteArray)] 23 (0, 0)) (by (with_reducible repeat (first | apply xN_ | apply xD_ | apply xA_)); exact BK168.out)) : gb171 ≠ gb168)); have n8_ := Aside0.mk ((by rw [hg]; exact Nat.ne_of_lt (blk_lt (g := gb169) (o := .cells #[.int .i64 x170000_1, .int .i64 x170001_1, .int .i64 x170002_1, .string x170003_1, .string x170004_1] 23 (0, 0)) (by (with_reducible repeat (first | apply xN_ | apply xD_ | apply xA_)); exact BK169.out)) : gb169 ≠ gb171)); have n9_ := Aside0.mk ((by rw [hg]; exact Nat.ne_of_gt (blk_lt (g := gb169) (o := .cells #[.int .i64 x170000_1, .int .i64 x170001_1, .int .i64 x170002_1, .string x170003_1, .string x170004_1] 23 (0, 0)) (by (with_reducible repeat (first | apply xN_ | apply xD_ | apply xA_)); exact BK169.out)) : gb171 ≠ gb169)); clear BK168; clear BK169; clear HB; have BK168 := n0_; have BK169 := n1_; have HB := n2_; have BK171 := n3_; have GW171 := n4_; have GE171 := n5_; have NB168_171 := n6_; have NB171_168 := n7_; have NB169_171 := n8_; have NB171_169 := n9_; clear n0_ n1_ n2_ n3_ n4_ n5_ n6_ n7_ n8_ n9_; clear hb hbox hg; have hnb41 := NB171_168.out; have hnc41 := NB168_171.out; have hnb42 := NB171_169.out; have hnc42 := NB169_171.out; have hcz43_0 : w40.cell? ⟨gb171, 0, none⟩ = some (.int .i64 0) := (xC_ BK171.out 0).trans rfl; have hcz43_1 : w40.cell? ⟨gb171, 1, none⟩ = some (.int .i64 0) := (xC_ BK171.out 1).trans rfl; have hcz43_2 : w40.cell? ⟨gb171, 2, none⟩ = some (.int .i64 0) := (xC_ BK171.out 2).trans rfl; have hcz43_3 : w40.cell? ⟨gb171, 3, none⟩ = some (.string (⟨#[]⟩ : ByteArray)) := (xC_ BK171.out 3).trans rfl; have hcz43_4 : w40.cell? ⟨gb171, 4, none⟩ = some (.string (⟨#[]⟩ : ByteArray)) := (xC_ BK171.out 4).trans rfl; have hfz43_0 := xF_ BK171.out 0; have hfz43_1 := xF_ BK171.out 1; have hfz43_2 := xF_ BK171.out 2; have hfz43_3 := xF_ BK171.out 3; have hfz43_4 := xF_ BK171.out 4) | ((with_reducible refine gate_callee (f := 13) rfl ?_); refine goesL_ (some 15) rfl rfl Tryd.func13 (by kernel_rfl) rfl #[.agg #[.int .i64 ((rd_T23 l0 x10_1).f0), .int .i64 ((rd_T23 l0 x10_1).f1), .int .i64 ((rd_T23 l0 x10_1).f2), .string ((rd_T23 l0 x10_1).f3), .string ((rd_T23 l0 x10_1).f4)]] rfl (by (try simp only [List.map_toArray, List.map_cons, List.map_nil]); first | done | rfl) ?_; (with_reducible refine (ver_Check.calls ((rd_T23 l0 x10_1).f0) ((rd_T23 l0 x10_1).f1) ((rd_T23 l0 x10_1).f2) ((rd_T23 l0 x10_1).f3) ((rd_T23 l0 x10_1).f4) false _ A7.out).mono ?_); rintro e w44 ⟨rfl, hb⟩; refine ⟨_, rfl, ?_⟩; have n0_ := Aside0.mk (blk_below (g := gb168) (o := .cells #[.int .i64 0, .int .i64 0, .int .i64 0, .string (⟨#[]⟩ : ByteArray), .string (⟨#[]⟩ : ByteArray)] 23 (0, 0)) (by (with_reducible repeat (first | apply xN_ | apply xD_ | apply xA_)); refine xR_ ?_ NB168_171.out _; refine xR_ ?_ NB168_171.out _; refine xR_ ?_ NB168_171.out _; refine xR_ ?_ NB168_171.out _; refine xR_ ?_ NB168_171.out _; (with_reducible repeat (first | apply xN_ | apply xD_ | apply xA_)); exact BK168.out) hb); have n1_ := Aside0.mk (blk_below (g := gb169) (o := .cells #[.int .i64 x170000_1, .int .i64 x170001_1, .int .i64 x170002_1, .string x170003_1, .string x170004_1] 23 (0, 0)) (by (with_reducible repeat (first | apply xN_ | apply xD_ | apply xA_)); refine xR_ ?_ NB169_171.out _; refine xR_ ?_ NB169_171.out _; refine xR_ ?_ NB169_171.out _; refine xR_ ?_ NB169_171.out _; refine xR_ ?_ NB169_171.out _; (with_reducible repeat (first | apply xN_ | apply xD_ | apply xA_)); exact BK169.out) hb); have n2_ := Aside0.mk (blk_below (g := gb171) (o := .cells #[.int .i64 ((rd_T23 l0 x10_1).f0), .int .i64 ((rd_T23 l0 x10_1).f1), .int .i64 ((rd_T23 l0 x10_1).f2), .string ((rd_T23 l0 x10_1).f3), .string ((rd_T23 l0 x10_1).f4)] 23 (0, 0)) (by (with_reducible repeat (first | apply xN_ | apply xD_ | apply xA_)); refine blk_put (cs := #[.int .i64 ((rd_T23 l0 x10_1).f0), .int .i64 ((rd_T23 l0 x10_1).f1), .int .i64 ((rd_T23 l0 x10_1).f2), .string ((rd_T23 l0 x10_1).f3), .string (⟨#[]⟩ : ByteArray)]) ?_ 4 _ rfl; refine blk_put (cs := #[.int .i64 ((rd_T23 l0 x10_1).f0), .int .i64 ((rd_T23 l0 x10_1).f1), .int .i64 ((rd_T23 l0 x10_1).f2), .string (⟨#[]⟩ : ByteArray), .string (⟨#[]⟩ : ByteArray)]) ?_ 3 _ rfl; refine blk_put (cs := #[.int .i64 ((rd_T23 l0 x10_1).f0), .int .i64 ((rd_T23 l0 x10_1).f1), .int .i64 0, .string (⟨#[]⟩ : ByteArray), .string (⟨#[]⟩ : ByteArray)]) ?_ 2 _ rfl; refine blk_put (cs := #[.int .i64 ((rd_T23 l0 x10_1).f0), .int .i64 0, .int .i64 0, .string (⟨#[]⟩ : ByteArray), .string (⟨#[]⟩ : ByteArray)]) ?_ 1 _ rfl; refine blk_put (cs := #[.int .i64 0, .int .i64 0, .int .i64 0, .string (⟨#[]⟩ : ByteArray), .string (⟨#[]⟩ : ByteArray)]) ?_ 0 _ rfl; (with_reducible repeat (first | apply xN_ | apply xD_ | apply xA_)); exact BK171.out) hb); have n3_ := Aside0.mk (below_step (by repeat (first | (with_reducible first | exact HB.out | apply yA_ | apply yN_ | apply yD_ | refine yS_ ?_ GE168.out | refine yS_ ?_ GE169.out | refine yS_ ?_ GE171.out) | exact HB.out)) hb); clear BK168; clear BK169; clear BK171; clear HB; have BK168 := n0_; have BK169 := n1_; have BK171 := n2_; have HB := n3_; clear n0_ n1_ n2_ n3_; (try clear hb); (try clear hb2); (try clear hk); (try clear hi)))
       go_roundg k1
       case measure => have := HK1.out; omega
       case rel => exact ⟨(x5_1), (wrap64 (x10_1 + 1)), (x170000_1), (x170001_1), (x170002_1), (x170003_1), (x170004_1), (by first | rfl | (simp; done) | (simp [*]; done)), (by first | rfl | (simp; done) | (simp [*]; done)), H', ⟨by have := HK1.out; omega⟩, ⟨by (with_reducible repeat (first | apply xN_ | apply xD_ | apply xA_)); exact BK168.out⟩, ⟨by (with_reducible repeat (first | apply xN_ | apply xD_ | apply xA_)); exact BK169.out⟩, ⟨by repeat (first | (with_reducible first | exact HB.out | apply yA_ | apply yN_ | apply yD_ | refine yS_ ?_ GE168.out | refine yS_ ?_ GE169.out | refine yS_ ?_ GE171.out) | exact HB.out)⟩⟩
     ·rw [if_neg c6] at H
      exact absurd H (by simp)
    ·rw [if_neg c5] at H
     exact absurd H (by simp)
   ·rw [if_neg c4] at H
    have c4b0 : decide (x10_1 < (l0.length : Int)) = false := decide_eq_false c4
    clear c4
    simp only [Option.some.injEq, Prod.mk.injEq] at H
    obtain ⟨rfl, rfl, rfl, rfl, rfl, rfl⟩ := H
    have hnb45 := NB169_168.out
    have hnc45 := NB168_169.out
    have hcz46_0 : wr.cell? ⟨gb169, 0, none⟩ = some (.int .i64 x170000_1) := (xC_ BK169.out 0).trans rfl
    have hcz46_1 : wr.cell? ⟨gb169, 1, none⟩ = some (.int .i64 x170001_1) := (xC_ BK169.out 1).trans rfl
    have hcz46_2 : wr.cell? ⟨gb169, 2, none⟩ = some (.int .i64 x170002_1) := (xC_ BK169.out 2).trans rfl
    have hcz46_3 : wr.cell? ⟨gb169, 3, none⟩ = some (.string x170003_1) := (xC_ BK169.out 3).trans rfl
    have hcz46_4 : wr.cell? ⟨gb169, 4, none⟩ = some (.string x170004_1) := (xC_ BK169.out 4).trans rfl
    have hfz46_0 := xF_ BK169.out 0
    have hfz46_1 := xF_ BK169.out 1
    have hfz46_2 := xF_ BK169.out 2
    have hfz46_3 := xF_ BK169.out 3
    have hfz46_4 := xF_ BK169.out 4
    have hcz47_0 : wr.cell? ⟨gb168, 0, none⟩ = some (.int .i64 0) := (xC_ BK168.out 0).trans rfl
    have hcz47_1 : wr.cell? ⟨gb168, 1, none⟩ = some (.int .i64 0) := (xC_ BK168.out 1).trans rfl
    have hcz47_2 : wr.cell? ⟨gb168, 2, none⟩ = some (.int .i64 0) := (xC_ BK168.out 2).trans rfl
    have hcz47_3 : wr.cell? ⟨gb168, 3, none⟩ = some (.string (⟨#[]⟩ : ByteArray)) := (xC_ BK168.out 3).trans rfl
    have hcz47_4 : wr.cell? ⟨gb168, 4, none⟩ = some (.string (⟨#[]⟩ : ByteArray)) := (xC_ BK168.out 4).trans rfl
    have hfz47_0 := xF_ BK168.out 0
    have hfz47_1 := xF_ BK168.out 1
    have hfz47_2 := xF_ BK168.out 2
    have hfz47_3 := xF_ BK168.out 3
    have hfz47_4 := xF_ BK168.out 4
    go_wp2
    refine bodyPost_ret (results_ct rfl _ _ gb168 23 #[.int .i64 x170000_1, .int .i64 x170001_1, .int .i64 x170002_1, .string x170003_1, .string x170004_1] (0, 0) _ rfl (by (with_reducible repeat (first | apply xN_ | apply xD_ | apply xA_)); refine blk_put (cs := #[.int .i64 x170000_1, .int .i64 x170001_1, .int .i64 x170002_1, .string x170003_1, .string (⟨#[]⟩ : ByteArray)]) ?_ 4 _ rfl; refine blk_put (cs := #[.int .i64 x170000_1, .int .i64 x170001_1, .int .i64 x170002_1, .string (⟨#[]⟩ : ByteArray), .string (⟨#[]⟩ : ByteArray)]) ?_ 3 _ rfl; refine blk_put (cs := #[.int .i64 x170000_1, .int .i64 x170001_1, .int .i64 0, .string (⟨#[]⟩ : ByteArray), .string (⟨#[]⟩ : ByteArray)]) ?_ 2 _ rfl; refine blk_put (cs := #[.int .i64 x170000_1, .int .i64 0, .int .i64 0, .string (⟨#[]⟩ : ByteArray), .string (⟨#[]⟩ : ByteArray)]) ?_ 1 _ rfl; refine blk_put (cs := #[.int .i64 0, .int .i64 0, .int .i64 0, .string (⟨#[]⟩ : ByteArray), .string (⟨#[]⟩ : ByteArray)]) ?_ 0 _ rfl; (with_reducible repeat (first | apply xN_ | apply xD_ | apply xA_)); exact BK168.out) Tryd.underlying23 rfl (by kernel_rfl)) rfl ?_
    exact ⟨by first | rfl | (simp [errW_none, errW_some] <;> rfl) | (simp [*, errW_none, errW_some] <;> rfl), by repeat (first | (with_reducible first | exact HB.out | apply yA_ | apply yN_ | apply yD_ | refine yS_ ?_ GE168.out | refine yS_ ?_ GE169.out) | exact HB.out)⟩
end Go.Proofs.YthoiepkejhhcoaaDoor.P
