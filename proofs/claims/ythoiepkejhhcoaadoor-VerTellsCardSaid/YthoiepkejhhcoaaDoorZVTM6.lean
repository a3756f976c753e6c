/- Printed functions, merged. -/
import Derived.Test.YthoiepkejhhcoaaDoorZVTM0
import Derived.Test.YthoiepkejhhcoaaDoorZVTVLaid
import Derived.Test.YthoiepkejhhcoaaDoorZVTM3
import Derived.Test.YthoiepkejhhcoaaDoorZVTM5
import Derived.Test.YthoiepkejhhcoaaDoorZVTM1
import Derived.Test.YthoiepkejhhcoaaDoorZVTVCheck
import Derived.Test.YthoiepkejhhcoaaDoorZVTVParse
import Derived.Test.YthoiepkejhhcoaaDoorZVTAl
namespace Go.Proofs.YthoiepkejhhcoaaDoor.P
open Go.RowKit Go.Proofs.YthoiepkejhhcoaaDoorW.PrintWords Go.Proofs.YthoiepkejhhcoaaDoorW.PrintLast Go.Proofs.YthoiepkejhhcoaaDoorW.PrintMore
attribute [local go_sem] max2_int min2_int max_two min_two max_three min_three max_four min_four   -- for this text's walks alone
set_option linter.unusedVariables false
set_option linter.unusedSimpArgs false
section
attribute [local go_sem high] eqA23
def armadalaw07_VerTells.j0 : Nat → ByteArray → Bool → Int → Int → Int → ByteArray → ByteArray → Option (Bool)
 | 0, _, _, _, _, _, _, _ => none
 | k + 1, x1, x23, x294000, x294001, x294002, x294003, x294004 => if x23 = true then ((armadalaw07_live.f k).bind fun t294 => (some t294)) else ((ver_Parse.f x1).bind fun bt295 => ((armadaref07_Parse.f k x1).bind fun bt302 => ((ver_Check.f x294000 x294001 x294002 x294003 x294004).bind fun t309 => ((armadaref07_Check.f k x294000 x294001 x294002 x294003 x294004).bind fun t310 => (if (t309 == t310) = true then ((ver_Text.f x294000 x294001 x294002 x294003 x294004).bind fun t311 => ((armadaref07_Text.f k x294000 x294001 x294002 x294003 x294004).bind fun t312 => (if t311.toList = t312.toList then (if (bt295.1 == bt302.1 && (bt295.2.1 == bt302.2.1 && (bt295.2.2.1 == bt302.2.2.1 && (bt295.2.2.2.1.toList == bt302.2.2.2.1.toList && (bt295.2.2.2.2.1.toList == bt302.2.2.2.2.1.toList))))) = true then (if (bt295.2.2.2.2.2 == bt302.2.2.2.2.2) = true then ((armadalaw07_live.f k).bind fun t313 => (some t313)) else (some false)) else (some false)) else (some false)))) else (some false))))))
def armadalaw07_VerTells.f (k : Nat) (a0_0 : Int) (a0_1 : Int) (a0_2 : Int) (a0_3 : ByteArray) (a0_4 : ByteArray) (a1 : ByteArray) : Option (Bool) := if (a0_3.size : Int) > 200 then (armadalaw07_VerTells.j0 k a1 true a0_0 a0_1 a0_2 a0_3 a0_4) else (if (a0_4.size : Int) > 200 then (armadalaw07_VerTells.j0 k a1 true a0_0 a0_1 a0_2 a0_3 a0_4) else (armadalaw07_VerTells.j0 k a1 (decide ((a1.size : Int) > 200)) a0_0 a0_1 a0_2 a0_3 a0_4))
theorem armadalaw07_VerTells.mono_l : ∀ k, (∀ y0 y1 y2 y3 y4 y5 y6, LeO (armadalaw07_VerTells.j0 k y0 y1 y2 y3 y4 y5 y6) (armadalaw07_VerTells.j0 (k + 1) y0 y1 y2 y3 y4 y5 y6))
 | 0 => fun _ _ _ _ _ _ _ r h => by simp [armadalaw07_VerTells.j0] at h
 | k + 1 => by
  have ih0 := armadalaw07_VerTells.mono_l k
  ·intro y0 y1 y2 y3 y4 y5 y6
   unfold armadalaw07_VerTells.j0
   repeat' first
   | (with_reducible exact ih0 _ _ _ _ _ _ _)
   | (with_reducible exact armadalaw07_live.mono _)
   | (with_reducible exact armadaref07_Check.mono _ _ _ _ _ _)
   | (with_reducible exact armadaref07_Parse.mono _ _)
   | (with_reducible exact armadaref07_Text.mono _ _ _ _ _ _)
   | (with_reducible exact LeO.refl _)
   | (with_reducible exact LeO.none _)
   | (with_reducible refine LeO.ite ?_ ?_)
   | (with_reducible refine LeO.bind ?_ (fun _ => ?_))
   | exact ih0 _ _ _ _ _ _ _
   | exact armadalaw07_live.mono _
   | exact armadaref07_Check.mono _ _ _ _ _ _
   | exact armadaref07_Parse.mono _ _
   | exact armadaref07_Text.mono _ _ _ _ _ _
   | exact LeO.none _
   | refine LeO.ite ?_ ?_
   | refine LeO.bind ?_ (fun _ => ?_)
theorem armadalaw07_VerTells.mono : ∀ a0 a1 a2 a3 a4 a5 k, LeO (armadalaw07_VerTells.f k a0 a1 a2 a3 a4 a5) (armadalaw07_VerTells.f (k + 1) a0 a1 a2 a3 a4 a5) := by
 intro a0 a1 a2 a3 a4 a5 k
 have ih0 := armadalaw07_VerTells.mono_l k
 unfold armadalaw07_VerTells.f
 repeat' first
   | (with_reducible exact ih0 _ _ _ _ _ _ _)
   | (with_reducible exact armadalaw07_live.mono _)
   | (with_reducible exact armadaref07_Check.mono _ _ _ _ _ _)
   | (with_reducible exact armadaref07_Parse.mono _ _)
   | (with_reducible exact armadaref07_Text.mono _ _ _ _ _ _)
   | (with_reducible exact LeO.refl _)
   | (with_reducible exact LeO.none _)
   | (with_reducible refine LeO.ite ?_ ?_)
   | (with_reducible refine LeO.bind ?_ (fun _ => ?_))
   | exact ih0 _ _ _ _ _ _ _
   | exact armadalaw07_live.mono _
   | exact armadaref07_Check.mono _ _ _ _ _ _
   | exact armadaref07_Parse.mono _ _
   | exact armadaref07_Text.mono _ _ _ _ _ _
   | exact LeO.none _
   | refine LeO.ite ?_ ?_
   | refine LeO.bind ?_ (fun _ => ?_)
def armadalaw07_VerTells.T5 : Bool × List (List Nat × List Nat) := (true, [([], []), ([0], [0]), ([], []), ([2, 1], [2]), ([1, 3], [1, 3]), ([4, 3], [4]), ([5], [5]), ([6, 5, 5], [5, 6]), ([5], [5]), ([8, 7, 5], [5, 8]), ([7, 9, 5], [5, 7, 9]), ([5, 10], [5, 10]), ([11, 9], [11]), ([12], [12]), ([12], [12]), ([13, 14, 12], [12, 13, 14]), ([12, 15], [12, 15]), ([16, 12], [16]), ([17], [17]), ([17], [17]), ([18, 19, 17], [17, 18, 19]), ([17, 20], [17, 20]), ([21, 17], [21]), ([22, 22], [22]), ([22, 23], [22, 23]), ([24, 23, 0, 1, 2, 3, 4, 5, 6, 7, 8, 9, 10, 11, 12, 13, 14, 15, 16, 17, 18, 19, 20, 21, 22, 23, 24], [24])])
def armadalaw07_VerTells.B5 : List Nat := [0, 1, 0, 7, 15, 31, 63, 127, 63, 511, 1023, 2047, 4095, 8191, 8191, 32767, 65535, 131071, 262143, 262143, 1048575, 2097151, 4194303, 8388607, 16777215, 33554431]
theorem armadalaw07_VerTells.tab5 : rtab .any (opsOf Tryd.f3 5) = armadalaw07_VerTells.T5 := by kernel_rfl
theorem armadalaw07_VerTells.bits5 : waitsOk armadalaw07_VerTells.T5.2 armadalaw07_VerTells.B5 = true := by kernel_rfl
set_option maxHeartbeats 8000000 in
set_option maxRecDepth 100000 in
theorem armadalaw07_VerTells.calls (k : Nat) (a0_0 : Int) (a0_1 : Int) (a0_2 : Int) (a0_3 : ByteArray) (a0_4 : ByteArray) (a1 : ByteArray) (r : Bool) (w : World) (h : armadalaw07_VerTells.f k a0_0 a0_1 a0_2 a0_3 a0_4 a1 = some r) (hT_ : r = true := by rfl) (LW0 : LaidW w) :
  Calls Tryd.prog 3 #[.agg #[.int .i64 a0_0, .int .i64 a0_1, .int .i64 a0_2, .string a0_3, .string a0_4], .string a1] w fun e w' => e = .returned (.bool r) ∧ Below w.heap.size w w' := by
 subst hT_
 have LW := Aside0.mk LW0
 clear LW0
 have hu23 := Tryd.underlying23
 have HB := Aside0.mk (Below.refl w.heap.size w)
 have H : (if (a0_3.size : Int) > 200 then (armadalaw07_VerTells.j0 k a1 true a0_0 a0_1 a0_2 a0_3 a0_4) else (if (a0_4.size : Int) > 200 then (armadalaw07_VerTells.j0 k a1 true a0_0 a0_1 a0_2 a0_3 a0_4) else (armadalaw07_VerTells.j0 k a1 (decide ((a1.size : Int) > 200)) a0_0 a0_1 a0_2 a0_3 a0_4))) = some true := h
 clear h
 have HC3 := Aside0.mk H
 clear H
 go_enter Tryd.func3, Tryd.ntmps3
 go_upto_region 1 with (first | ((with_reducible refine gate_dst (N := 2) rfl ?_); (try (refine gate_guard (by rfl) ?_; dsimp only)); refine box_event ?hg (N := 2) ?hd (cs := #[.int .i64 a0_0, .int .i64 a0_1, .int .i64 a0_2, .string a0_3, .string a0_4]) (t := 23) ?hr ?_; (case hd => rfl); (case hg => rfl); (case hr => first | (go_simp; done) | (go_simp; rfl)); intro gb293 hg w4 hbox hb; have n0_ := Aside0.mk (below_step (by repeat (first | (with_reducible first | exact HB.out | apply yA_ | apply yN_ | apply yD_) | exact HB.out)) hb); have n1_ := Aside0.mk (hbox); have n2_ := Aside0.mk ((by rw [hg]; exact (below_size (by repeat (first | (with_reducible first | exact HB.out | apply yA_ | apply yN_ | apply yD_) | exact HB.out))) : w.heap.size ≤ gb293)); have n3_ := Aside0.mk ((by rw [hg]; exact (below_size (by repeat (first | (with_reducible first | exact HB.out | apply yA_ | apply yN_ | apply yD_) | exact HB.out))) : w.heap.size ≤ gb293)); clear HB; have HB := n0_; have BK293 := n1_; have GW293 := n2_; have GE293 := n3_; clear n0_ n1_ n2_ n3_; clear hb hbox hg))
 (try simp only [Act.put, List.setIfInBounds_toArray, List.set_cons_zero, List.set_cons_succ])
 go_cut [23] (fun v23 wc => ∃ (kq : Nat) (x23_2 : Bool), v23 = .bool x23_2 ∧ Aside0 (armadalaw07_VerTells.j0 kq a1 x23_2 a0_0 a0_1 a0_2 a0_3 a0_4 = some true) ∧ Aside0 (kq ≤ k) ∧ Aside0 (wc.heap[gb293]? = some (.cells #[.int .i64 a0_0, .int .i64 a0_1, .int .i64 a0_2, .string a0_3, .string a0_4] 23 (0, 0))) ∧ Aside0 (Below w.heap.size w wc))
 case first =>
  have H := HC3.out
  clear HC3
  by_cases c5 : (a0_3.size : Int) > 200
  ·rw [if_pos c5] at H
   have c5b0 : decide (200 < (a0_3.size : Int)) = true := decide_eq_true c5
   have c5b1 : decide (200 < a0_3.size) = true := decide_eq_true (by omega)
   clear c5
   (first | rw [c5b0] | (simp only [i64_w, i32_w]; rw [c5b0]) | skip)
   have H' := Aside0.mk H
   clear H
   have hcz6_0 : w4.cell? ⟨gb293, 0, none⟩ = some (.int .i64 a0_0) := (xC_ BK293.out 0).trans rfl
   have hcz6_1 : w4.cell? ⟨gb293, 1, none⟩ = some (.int .i64 a0_1) := (xC_ BK293.out 1).trans rfl
   have hcz6_2 : w4.cell? ⟨gb293, 2, none⟩ = some (.int .i64 a0_2) := (xC_ BK293.out 2).trans rfl
   have hcz6_3 : w4.cell? ⟨gb293, 3, none⟩ = some (.string a0_3) := (xC_ BK293.out 3).trans rfl
   have hcz6_4 : w4.cell? ⟨gb293, 4, none⟩ = some (.string a0_4) := (xC_ BK293.out 4).trans rfl
   have hfz6_0 := xF_ BK293.out 0
   have hfz6_1 := xF_ BK293.out 1
   have hfz6_2 := xF_ BK293.out 2
   have hfz6_3 := xF_ BK293.out 3
   have hfz6_4 := xF_ BK293.out 4
   go_wp2
   go_meet
   case rel => exact ⟨_, (true), (by first | rfl | (simp; done) | (simp [*]; done)), H', ⟨by first | omega | exact Nat.le_refl _⟩, ⟨by (with_reducible repeat (first | apply xN_ | apply xD_ | apply xA_)); exact BK293.out⟩, ⟨by repeat (first | (with_reducible first | exact HB.out | apply yA_ | apply yN_ | apply yD_ | refine yS_ ?_ GE293.out) | exact HB.out)⟩⟩
  ·rw [if_neg c5] at H
   have c5b0 : decide (200 < (a0_3.size : Int)) = false := decide_eq_false c5
   have c5b1 : decide (200 < a0_3.size) = false := decide_eq_false (by omega)
   clear c5
   (first | rw [c5b0] | (simp only [i64_w, i32_w]; rw [c5b0]) | skip)
   by_cases c7 : (a0_4.size : Int) > 200
   ·rw [if_pos c7] at H
    have c7b0 : decide (200 < (a0_4.size : Int)) = true := decide_eq_true c7
    have c7b1 : decide (200 < a0_4.size) = true := decide_eq_true (by omega)
    clear c7
    have H' := Aside0.mk H
    clear H
    have hcz8_0 : w4.cell? ⟨gb293, 0, none⟩ = some (.int .i64 a0_0) := (xC_ BK293.out 0).trans rfl
    have hcz8_1 : w4.cell? ⟨gb293, 1, none⟩ = some (.int .i64 a0_1) := (xC_ BK293.out 1).trans rfl
    have hcz8_2 : w4.cell? ⟨gb293, 2, none⟩ = some (.int .i64 a0_2) := (xC_ BK293.out 2).trans rfl
    have hcz8_3 : w4.cell? ⟨gb293, 3, none⟩ = some (.string a0_3) := (xC_ BK293.out 3).trans rfl
    have hcz8_4 : w4.cell? ⟨gb293, 4, none⟩ = some (.string a0_4) := (xC_ BK293.out 4).trans rfl
    have hfz8_0 := xF_ BK293.out 0
    have hfz8_1 := xF_ BK293.out 1
    have hfz8_2 := xF_ BK293.out 2
    have hfz8_3 := xF_ BK293.out 3
    have hfz8_4 := xF_ BK293.out 4
    go_wp2
    go_meet
    case rel => exact ⟨_, (true), (by first | rfl | (simp; done) | (simp [*]; done)), H', ⟨by first | omega | exact Nat.le_refl _⟩, ⟨by (with_reducible repeat (first | apply xN_ | apply xD_ | apply xA_)); exact BK293.out⟩, ⟨by repeat (first | (with_reducible first | exact HB.out | apply yA_ | apply yN_ | apply yD_ | refine yS_ ?_ GE293.out) | exact HB.out)⟩⟩
   ·rw [if_neg c7] at H
    have c7b0 : decide (200 < (a0_4.size : Int)) = false := decide_eq_false c7
    have c7b1 : decide (200 < a0_4.size) = false := decide_eq_false (by omega)
    clear c7
    have H' := Aside0.mk H
    clear H
    have hcz9_0 : w4.cell? ⟨gb293, 0, none⟩ = some (.int .i64 a0_0) := (xC_ BK293.out 0).trans rfl
    have hcz9_1 : w4.cell? ⟨gb293, 1, none⟩ = some (.int .i64 a0_1) := (xC_ BK293.out 1).trans rfl
    have hcz9_2 : w4.cell? ⟨gb293, 2, none⟩ = some (.int .i64 a0_2) := (xC_ BK293.out 2).trans rfl
    have hcz9_3 : w4.cell? ⟨gb293, 3, none⟩ = some (.string a0_3) := (xC_ BK293.out 3).trans rfl
    have hcz9_4 : w4.cell? ⟨gb293, 4, none⟩ = some (.string a0_4) := (xC_ BK293.out 4).trans rfl
    have hfz9_0 := xF_ BK293.out 0
    have hfz9_1 := xF_ BK293.out 1
    have hfz9_2 := xF_ BK293.out 2
    have hfz9_3 := xF_ BK293.out 3
    have hfz9_4 := xF_ BK293.out 4
    go_wp2
    go_meet
    case rel => exact ⟨_, (decide ((a1.size : Int) > 200)), (by first | rfl | (simp; done) | (simp [*]; done)), H', ⟨by first | omega | exact Nat.le_refl _⟩, ⟨by (with_reducible repeat (first | apply xN_ | apply xD_ | apply xA_)); exact BK293.out⟩, ⟨by repeat (first | (with_reducible first | exact HB.out | apply yA_ | apply yN_ | apply yD_ | refine yS_ ?_ GE293.out) | exact HB.out)⟩⟩
 case rest =>
  clear HC3
  (try clear p2); (try clear c3); (try clear c5); (try clear c5b0); (try clear c5b1); (try clear c7); (try clear c7b0); (try clear c7b1); (try clear hcz6_0); (try clear hcz6_1)
  (try clear hcz6_2); (try clear hcz6_3); (try clear hcz6_4); (try clear hcz8_0); (try clear hcz8_1); (try clear hcz8_2); (try clear hcz8_3); (try clear hcz8_4)
  (try clear hcz9_0); (try clear hcz9_1); (try clear hcz9_2); (try clear hcz9_3); (try clear hcz9_4); (try clear hfz6_0); (try clear hfz6_1); (try clear hfz6_2)
  (try clear hfz6_3); (try clear hfz6_4); (try clear hfz8_0); (try clear hfz8_1); (try clear hfz8_2); (try clear hfz8_3); (try clear hfz8_4); (try clear hfz9_0)
  (try clear hfz9_1); (try clear hfz9_2); (try clear hfz9_3); (try clear hfz9_4)
  obtain ⟨kq, x23_2, rfl, HA, HJ2, BK293, HB⟩ := hcut
  cases kq with
  | zero => exact absurd HA.out (by simp [armadalaw07_VerTells.j0])
  | succ kj2 =>
   have H := HA.out
   clear HA
   simp only [armadalaw07_VerTells.j0] at H
   by_cases c10 : x23_2 = true
   ·subst c10
    have H1 : ((armadalaw07_live.f kj2).bind fun t294 => (some t294)) = some true := by rw [if_pos rfl] at H; exact H
    clear H
    have H := H1
    clear H1
    replace H := Option.bind_eq_some_iff.mp H
    obtain ⟨t294, A110, H⟩ := H
    replace H : (some t294) = some true := H
    have A11 := Aside0.mk A110
    clear A110
    obtain rfl := Option.some.inj H
    go_wp2_with (first | ((with_reducible refine gate_callee (f := 10) rfl ?_); refine goesL_ (some 24) rfl rfl Tryd.func10 (by kernel_rfl) rfl #[] rfl (by (try simp only [List.map_toArray, List.map_cons, List.map_nil]); first | done | rfl) ?_; (with_reducible refine (armadalaw07_live.calls kj2  true _ A11.out (LW0 := LW.out.below (by repeat (first | (with_reducible first | exact HB.out | apply yA_ | apply yN_ | apply yD_ | refine yS_ ?_ GE293.out) | exact HB.out)))).mono ?_); rintro e w12 ⟨rfl, hb⟩; refine ⟨_, rfl, ?_⟩; have n0_ := Aside0.mk (blk_below (g := gb293) (o := .cells #[.int .i64 a0_0, .int .i64 a0_1, .int .i64 a0_2, .string a0_3, .string a0_4] 23 (0, 0)) (by (with_reducible repeat (first | apply xN_ | apply xD_ | apply xA_)); exact BK293.out) hb); have n1_ := Aside0.mk (below_step (by repeat (first | (with_reducible first | exact HB.out | apply yA_ | apply yN_ | apply yD_ | refine yS_ ?_ GE293.out) | exact HB.out)) hb); clear BK293; clear HB; have BK293 := n0_; have HB := n1_; clear n0_ n1_; (try clear hb); (try clear hb2); (try clear hk); (try clear hi)))
    go_ret
    exact ⟨by first | rfl | (simp [errW_none, errW_some] <;> rfl) | (simp [*, errW_none, errW_some] <;> rfl), by repeat (first | (with_reducible first | exact HB.out | apply yA_ | apply yN_ | apply yD_ | refine yS_ ?_ GE293.out) | exact HB.out)⟩
   ·replace c10 := Bool.eq_false_iff.mpr c10
    subst c10
    have H1 : ((ver_Parse.f a1).bind fun bt295 => ((armadaref07_Parse.f kj2 a1).bind fun bt302 => ((ver_Check.f a0_0 a0_1 a0_2 a0_3 a0_4).bind fun t309 => ((armadaref07_Check.f kj2 a0_0 a0_1 a0_2 a0_3 a0_4).bind fun t310 => (if (t309 == t310) = true then ((ver_Text.f a0_0 a0_1 a0_2 a0_3 a0_4).bind fun t311 => ((armadaref07_Text.f kj2 a0_0 a0_1 a0_2 a0_3 a0_4).bind fun t312 => (if t311.toList = t312.toList then (if (bt295.1 == bt302.1 && (bt295.2.1 == bt302.2.1 && (bt295.2.2.1 == bt302.2.2.1 && (bt295.2.2.2.1.toList == bt302.2.2.2.1.toList && (bt295.2.2.2.2.1.toList == bt302.2.2.2.2.1.toList))))) = true then (if (bt295.2.2.2.2.2 == bt302.2.2.2.2.2) = true then ((armadalaw07_live.f kj2).bind fun t313 => (some t313)) else (some false)) else (some false)) else (some false)))) else (some false)))))) = some true := by rw [if_neg (show ¬ (false = true) by decide)] at H; exact H
    clear H
    have H := H1
    clear H1
    replace H := Option.bind_eq_some_iff.mp H
    obtain ⟨⟨t295, t296, t297, t298, t299, t300⟩, A130, H⟩ := H
    replace H : ((armadaref07_Parse.f kj2 a1).bind fun bt302 => ((ver_Check.f a0_0 a0_1 a0_2 a0_3 a0_4).bind fun t309 => ((armadaref07_Check.f kj2 a0_0 a0_1 a0_2 a0_3 a0_4).bind fun t310 => (if (t309 == t310) = true then ((ver_Text.f a0_0 a0_1 a0_2 a0_3 a0_4).bind fun t311 => ((armadaref07_Text.f kj2 a0_0 a0_1 a0_2 a0_3 a0_4).bind fun t312 => (if t311.toList = t312.toList then (if (t295 == bt302.1 && (t296 == bt302.2.1 && (t297 == bt302.2.2.1 && (t298.toList == bt302.2.2.2.1.toList && (t299.toList == bt302.2.2.2.2.1.toList))))) = true then (if (t300 == bt302.2.2.2.2.2) = true then ((armadalaw07_live.f kj2).bind fun t313 => (some t313)) else (some false)) else (some false)) else (some false)))) else (some false))))) = some true := H
    have A13 := Aside0.mk A130
    clear A130
    replace H := Option.bind_eq_some_iff.mp H
    obtain ⟨⟨t302, t303, t304, t305, t306, t307⟩, A140, H⟩ := H
    replace H : ((ver_Check.f a0_0 a0_1 a0_2 a0_3 a0_4).bind fun t309 => ((armadaref07_Check.f kj2 a0_0 a0_1 a0_2 a0_3 a0_4).bind fun t310 => (if (t309 == t310) = true then ((ver_Text.f a0_0 a0_1 a0_2 a0_3 a0_4).bind fun t311 => ((armadaref07_Text.f kj2 a0_0 a0_1 a0_2 a0_3 a0_4).bind fun t312 => (if t311.toList = t312.toList then (if (t295 == t302 && (t296 == t303 && (t297 == t304 && (t298.toList == t305.toList && (t299.toList == t306.toList))))) = true then (if (t300 == t307) = true then ((armadalaw07_live.f kj2).bind fun t313 => (some t313)) else (some false)) else (some false)) else (some false)))) else (some false)))) = some true := H
    have A14 := Aside0.mk A140
    clear A140
    replace H := Option.bind_eq_some_iff.mp H
    obtain ⟨t309, A150, H⟩ := H
    replace H : ((armadaref07_Check.f kj2 a0_0 a0_1 a0_2 a0_3 a0_4).bind fun t310 => (if (t309 == t310) = true then ((ver_Text.f a0_0 a0_1 a0_2 a0_3 a0_4).bind fun t311 => ((armadaref07_Text.f kj2 a0_0 a0_1 a0_2 a0_3 a0_4).bind fun t312 => (if t311.toList = t312.toList then (if (t295 == t302 && (t296 == t303 && (t297 == t304 && (t298.toList == t305.toList && (t299.toList == t306.toList))))) = true then (if (t300 == t307) = true then ((armadalaw07_live.f kj2).bind fun t313 => (some t313)) else (some false)) else (some false)) else (some false)))) else (some false))) = some true := H
    have A15 := Aside0.mk A150
    clear A150
    replace H := Option.bind_eq_some_iff.mp H
    obtain ⟨t310, A160, H⟩ := H
    replace H : (if (t309 == t310) = true then ((ver_Text.f a0_0 a0_1 a0_2 a0_3 a0_4).bind fun t311 => ((armadaref07_Text.f kj2 a0_0 a0_1 a0_2 a0_3 a0_4).bind fun t312 => (if t311.toList = t312.toList then (if (t295 == t302 && (t296 == t303 && (t297 == t304 && (t298.toList == t305.toList && (t299.toList == t306.toList))))) = true then (if (t300 == t307) = true then ((armadalaw07_live.f kj2).bind fun t313 => (some t313)) else (some false)) else (some false)) else (some false)))) else (some false)) = some true := H
    have A16 := Aside0.mk A160
    clear A160
    by_cases c17 : (t309 == t310) = true
    ·rw [if_pos c17] at H
     have c17b0 : (t309 == t310) = true := c17
     (try (have c17b1 : decide (t309 = t310) = true := by simpa using c17))
     (try (have c17b2 : (t309 == t310) = true := by simpa using c17))
     clear c17
     replace H := Option.bind_eq_some_iff.mp H
     obtain ⟨t311, A180, H⟩ := H
     replace H : ((armadaref07_Text.f kj2 a0_0 a0_1 a0_2 a0_3 a0_4).bind fun t312 => (if t311.toList = t312.toList then (if (t295 == t302 && (t296 == t303 && (t297 == t304 && (t298.toList == t305.toList && (t299.toList == t306.toList))))) = true then (if (t300 == t307) = true then ((armadalaw07_live.f kj2).bind fun t313 => (some t313)) else (some false)) else (some false)) else (some false))) = some true := H
     have A18 := Aside0.mk A180
     clear A180
     replace H := Option.bind_eq_some_iff.mp H
     obtain ⟨t312, A190, H⟩ := H
     replace H : (if t311.toList = t312.toList then (if (t295 == t302 && (t296 == t303 && (t297 == t304 && (t298.toList == t305.toList && (t299.toList == t306.toList))))) = true then (if (t300 == t307) = true then ((armadalaw07_live.f kj2).bind fun t313 => (some t313)) else (some false)) else (some false)) else (some false)) = some true := H
     have A19 := Aside0.mk A190
     clear A190
     by_cases c20 : t311.toList = t312.toList
     ·rw [if_pos c20] at H
      have c20b0 : (t311.toList == t312.toList) = true := beq_iff_eq.mpr c20
      have c20b1 : (t311.toList != t312.toList) = false := bne_eq_false_iff_eq.mpr c20
      clear c20
      by_cases c21 : (t295 == t302 && (t296 == t303 && (t297 == t304 && (t298.toList == t305.toList && (t299.toList == t306.toList))))) = true
      ·rw [if_pos c21] at H
       have c21b0 : (t295 == t302 && (t296 == t303 && (t297 == t304 && (t298.toList == t305.toList && (t299.toList == t306.toList))))) = true := c21
       (try (have c21b1 : decide (t295 = t302 && (t296 == t303 && (t297 == t304 && (t298.toList == t305.toList && (t299.toList == t306.toList))))) = true := by simpa using c21))
       (try (have c21b2 : (t295 == t302 && (t296 == t303 && (t297 == t304 && (t298.toList == t305.toList && (t299.toList == t306.toList))))) = true := by simpa using c21))
       clear c21
       by_cases c22 : (t300 == t307) = true
       ·rw [if_pos c22] at H
        have c22b0 : (t300 == t307) = true := c22
        (try (have c22b1 : decide (t300 = t307) = true := by simpa using c22))
        (try (have c22b2 : (t300 == t307) = true := by simpa using c22))
        clear c22
        replace H := Option.bind_eq_some_iff.mp H
        obtain ⟨t313, A230, H⟩ := H
        replace H : (some t313) = some true := H
        have A23 := Aside0.mk A230
        clear A230
        obtain rfl := Option.some.inj H
        try go_wp2_with (first | ((with_reducible refine gate_callee (f := 11) rfl ?_); refine goesL_ (some 27) rfl rfl Tryd.func11 (by kernel_rfl) rfl #[.string a1] rfl (by (try simp only [List.map_toArray, List.map_cons, List.map_nil]); first | done | rfl) ?_; (with_reducible refine (ver_Parse.calls a1 t295 t296 t297 t298 t299 t300 _ A13.out (LW0 := LW.out.below (by repeat (first | (with_reducible first | exact HB.out | apply yA_ | apply yN_ | apply yD_ | refine yS_ ?_ GE293.out) | exact HB.out)))).mono ?_); rintro e w24 ⟨rfl, hb⟩; refine ⟨_, rfl, ?_⟩; have n0_ := Aside0.mk (blk_below (g := gb293) (o := .cells #[.int .i64 a0_0, .int .i64 a0_1, .int .i64 a0_2, .string a0_3, .string a0_4] 23 (0, 0)) (by (with_reducible repeat (first | apply xN_ | apply xD_ | apply xA_)); exact BK293.out) hb); have n1_ := Aside0.mk (below_step (by repeat (first | (with_reducible first | exact HB.out | apply yA_ | apply yN_ | apply yD_ | refine yS_ ?_ GE293.out) | exact HB.out)) hb); clear BK293; clear HB; have BK293 := n0_; have HB := n1_; clear n0_ n1_; (try clear hb); (try clear hb2); (try clear hk); (try clear hi)) | ((with_reducible refine gate_dst (N := 5) rfl ?_); (try (refine gate_guard (by rfl) ?_; dsimp only)); refine box_event ?hg (N := 5) ?hd (cs := #[.int .i64 0, .int .i64 0, .int .i64 0, .string (⟨#[]⟩ : ByteArray), .string (⟨#[]⟩ : ByteArray)]) (t := 23) ?hr ?_; (case hd => rfl); (case hg => rfl); (case hr => first | (go_simp; done) | (go_simp; rfl)); intro gb301 hg w25 hbox hb; have n0_ := Aside0.mk (blk_below (g := gb293) (o := .cells #[.int .i64 a0_0, .int .i64 a0_1, .int .i64 a0_2, .string a0_3, .string a0_4] 23 (0, 0)) (by (with_reducible repeat (first | apply xN_ | apply xD_ | apply xA_)); exact BK293.out) hb); have n1_ := Aside0.mk (below_step (by repeat (first | (with_reducible first | exact HB.out | apply yA_ | apply yN_ | apply yD_ | refine yS_ ?_ GE293.out) | exact HB.out)) hb); have n2_ := Aside0.mk (hbox); have n3_ := Aside0.mk ((by rw [hg]; exact (below_size (by repeat (first | (with_reducible first | exact HB.out | apply yA_ | apply yN_ | apply yD_ | refine yS_ ?_ GE293.out) | exact HB.out))) : w.heap.size ≤ gb301)); have n4_ := Aside0.mk ((by rw [hg]; exact (below_size (by repeat (first | (with_reducible first | exact HB.out | apply yA_ | apply yN_ | apply yD_ | refine yS_ ?_ GE293.out) | exact HB.out))) : w.heap.size ≤ gb301)); have n5_ := Aside0.mk ((by rw [hg]; exact Nat.ne_of_lt (blk_lt (g := gb293) (o := .cells #[.int .i64 a0_0, .int .i64 a0_1, .int .i64 a0_2, .string a0_3, .string a0_4] 23 (0, 0)) (by (with_reducible repeat (first | apply xN_ | apply xD_ | apply xA_)); exact BK293.out)) : gb293 ≠ gb301)); have n6_ := Aside0.mk ((by rw [hg]; exact Nat.ne_of_gt (blk_lt (g := gb293) (o := .cells #[.int .i64 a0_0, .int .i64 a0_1, .int .i64 a0_2, .string a0_3, .string a0_4] 23 (0, 0)) (by (with_reducible repeat (first | apply xN_ | apply xD_ | apply xA_)); exact BK293.out)) : gb301 ≠ gb293)); clear BK293; clear HB; have BK293 := n0_; have HB := n1_; have BK301 := n2_; have GW301 := n3_; have GE301 := n4_; have NB293_301 := n5_; have NB301_293 := n6_; clear n0_ n1_ n2_ n3_ n4_ n5_ n6_; clear hb hbox hg; have hnb26 := NB301_293.out; have hnc26 := NB293_301.out; have hcz27_0 : w25.cell? ⟨gb301, 0, none⟩ = some (.int .i64 0) := (xC_ BK301.out 0).trans rfl; have hcz27_1 : w25.cell? ⟨gb301, 1, none⟩ = some (.int .i64 0) := (xC_ BK301.out 1).trans rfl; have hcz27_2 : w25.cell? ⟨gb301, 2, none⟩ = some (.int .i64 0) := (xC_ BK301.out 2).trans rfl; have hcz27_3 : w25.cell? ⟨gb301, 3, none⟩ = some (.string (⟨#[]⟩ : ByteArray)) := (xC_ BK301.out 3).trans rfl; have hcz27_4 : w25.cell? ⟨gb301, 4, none⟩ = some (.string (⟨#[]⟩ : ByteArray)) := (xC_ BK301.out 4).trans rfl; have hfz27_0 := xF_ BK301.out 0; have hfz27_1 := xF_ BK301.out 1; have hfz27_2 := xF_ BK301.out 2; have hfz27_3 := xF_ BK301.out 3; have hfz27_4 := xF_ BK301.out 4) | ((with_reducible refine gate_callee (f := 12) rfl ?_); refine goesL_ (some 32) rfl rfl Tryd.func12 (by kernel_rfl) rfl #[.string a1] rfl (by (try simp only [List.map_toArray, List.map_cons, List.map_nil]); first | done | rfl) ?_; (with_reducible refine (armadaref07_Parse.calls kj2 a1 t302 t303 t304 t305 t306 t307 _ A14.out).mono ?_); rintro e w28 ⟨rfl, hb⟩; refine ⟨_, rfl, ?_⟩; have n0_ := Aside0.mk (blk_below (g := gb293) (o := .cells #[.int .i64 a0_0, .int .i64 a0_1, .int .i64 a0_2, .string a0_3, .string a0_4] 23 (0, 0)) (by (with_reducible repeat (first | apply xN_ | apply xD_ | apply xA_)); refine xR_ ?_ NB293_301.out _; refine xR_ ?_ NB293_301.out _; refine xR_ ?_ NB293_301.out _; refine xR_ ?_ NB293_301.out _; refine xR_ ?_ NB293_301.out _; (with_reducible repeat (first | apply xN_ | apply xD_ | apply xA_)); exact BK293.out) hb); have n1_ := Aside0.mk (blk_below (g := gb301) (o := .cells #[.int .i64 t295, .int .i64 t296, .int .i64 t297, .string t298, .string t299] 23 (0, 0)) (by (with_reducible repeat (first | apply xN_ | apply xD_ | apply xA_)); refine blk_put (cs := #[.int .i64 t295, .int .i64 t296, .int .i64 t297, .string t298, .string (⟨#[]⟩ : ByteArray)]) ?_ 4 _ rfl; refine blk_put (cs := #[.int .i64 t295, .int .i64 t296, .int .i64 t297, .string (⟨#[]⟩ : ByteArray), .string (⟨#[]⟩ : ByteArray)]) ?_ 3 _ rfl; refine blk_put (cs := #[.int .i64 t295, .int .i64 t296, .int .i64 0, .string (⟨#[]⟩ : ByteArray), .string (⟨#[]⟩ : ByteArray)]) ?_ 2 _ rfl; refine blk_put (cs := #[.int .i64 t295, .int .i64 0, .int .i64 0, .string (⟨#[]⟩ : ByteArray), .string (⟨#[]⟩ : ByteArray)]) ?_ 1 _ rfl; refine blk_put (cs := #[.int .i64 0, .int .i64 0, .int .i64 0, .string (⟨#[]⟩ : ByteArray), .string (⟨#[]⟩ : ByteArray)]) ?_ 0 _ rfl; (with_reducible repeat (first | apply xN_ | apply xD_ | apply xA_)); exact BK301.out) hb); have n2_ := Aside0.mk (below_step (by repeat (first | (with_reducible first | exact HB.out | apply yA_ | apply yN_ | apply yD_ | refine yS_ ?_ GE293.out | refine yS_ ?_ GE301.out) | exact HB.out)) hb); clear BK293; clear BK301; clear HB; have BK293 := n0_; have BK301 := n1_; have HB := n2_; clear n0_ n1_ n2_; (try clear hb); (try clear hb2); (try clear hk); (try clear hi)) | ((with_reducible refine gate_dst (N := 7) rfl ?_); (try (refine gate_guard (by rfl) ?_; dsimp only)); refine box_event ?hg (N := 7) ?hd (cs := #[.int .i64 0, .int .i64 0, .int .i64 0, .string (⟨#[]⟩ : ByteArray), .string (⟨#[]⟩ : ByteArray)]) (t := 23) ?hr ?_; (case hd => rfl); (case hg => rfl); (case hr => first | (go_simp; done) | (go_simp; rfl)); intro gb308 hg w29 hbox hb; have n0_ := Aside0.mk (blk_below (g := gb293) (o := .cells #[.int .i64 a0_0, .int .i64 a0_1, .int .i64 a0_2, .string a0_3, .string a0_4] 23 (0, 0)) (by (with_reducible repeat (first | apply xN_ | apply xD_ | apply xA_)); exact BK293.out) hb); have n1_ := Aside0.mk (blk_below (g := gb301) (o := .cells #[.int .i64 t295, .int .i64 t296, .int .i64 t297, .string t298, .string t299] 23 (0, 0)) (by (with_reducible repeat (first | apply xN_ | apply xD_ | apply xA_)); exact BK301.out) hb); have n2_ := Aside0.mk (below_step (by repeat (first | (with_reducible first | exact HB.out | apply yA_ | apply yN_ | apply yD_ | refine yS_ ?_ GE293.out | refine yS_ ?_ GE301.out) | exact HB.out)) hb); have n3_ := Aside0.mk (hbox); have n4_ := Aside0.mk ((by rw [hg]; exact (below_size (by repeat (first | (with_reducible first | exact HB.out | apply yA_ | apply yN_ | apply yD_ | refine yS_ ?_ GE293.out | refine yS_ ?_ GE301.out) | exact HB.out))) : w.heap.size ≤ gb308)); have n5_ := Aside0.mk ((by rw [hg]; exact (below_size (by repeat (first | (with_reducible first | exact HB.out | apply yA_ | apply yN_ | apply yD_ | refine yS_ ?_ GE293.out | refine yS_ ?_ GE301.out) | exact HB.out))) : w.heap.size ≤ gb308)); have n6_ := Aside0.mk ((by rw [hg]; exact Nat.ne_of_lt (blk_lt (g := gb293) (o := .cells #[.int .i64 a0_0, .int .i64 a0_1, .int .i64 a0_2, .string a0_3, .string a0_4] 23 (0, 0)) (by (with_reducible repeat (first | apply xN_ | apply xD_ | apply xA_)); exact BK293.out)) : gb293 ≠ gb308)); have n7_ := Aside0.mk ((by rw [hg]; exact Nat.ne_of_gt (blk_lt (g := gb293) (o := .cells #[.int .i64 a0_0, .int .i64 a0_1, .int .i64 a0_2, .string a0_3, .string a0_4] 23 (0, 0)) (by (with_reducible repeat (first | apply xN_ | apply xD_ | apply xA_)); exact BK293.out)) : gb308 ≠ gb293)); have n8_ := Aside0.mk ((by rw [hg]; exact Nat.ne_of_lt (blk_lt (g := gb301) (o := .cells #[.int .i64 t295, .int .i64 t296, .int .i64 t297, .string t298, .string t299] 23 (0, 0)) (by (with_reducible repeat (first | apply xN_ | apply xD_ | apply xA_)); exact BK301.out)) : gb301 ≠ gb308)); have n9_ := Aside0.mk ((by rw [hg]; exact Nat.ne_of_gt (blk_lt (g := gb301) (o := .cells #[.int .i64 t295, .int .i64 t296, .int .i64 t297, .string t298, .string t299] 23 (0, 0)) (by (with_reducible repeat (first | apply xN_ | apply xD_ | apply xA_)); exact BK301.out)) : gb308 ≠ gb301)); clear BK293; clear BK301; clear HB; have BK293 := n0_; have BK301 := n1_; have HB := n2_; have BK308 := n3_; have GW308 := n4_; have GE308 := n5_; have NB293_308 := n6_; have NB308_293 := n7_; have NB301_308 := n8_; have NB308_301 := n9_; clear n0_ n1_ n2_ n3_ n4_ n5_ n6_ n7_ n8_ n9_; clear hb hbox hg; have hnb30 := NB308_293.out; have hnc30 := NB293_308.out; have hnb31 := NB308_301.out; have hnc31 := NB301_308.out; have hcz32_0 : w29.cell? ⟨gb308, 0, none⟩ = some (.int .i64 0) := (xC_ BK308.out 0).trans rfl; have hcz32_1 : w29.cell? ⟨gb308, 1, none⟩ = some (.int .i64 0) := (xC_ BK308.out 1).trans rfl; have hcz32_2 : w29.cell? ⟨gb308, 2, none⟩ = some (.int .i64 0) := (xC_ BK308.out 2).trans rfl; have hcz32_3 : w29.cell? ⟨gb308, 3, none⟩ = some (.string (⟨#[]⟩ : ByteArray)) := (xC_ BK308.out 3).trans rfl; have hcz32_4 : w29.cell? ⟨gb308, 4, none⟩ = some (.string (⟨#[]⟩ : ByteArray)) := (xC_ BK308.out 4).trans rfl; have hfz32_0 := xF_ BK308.out 0; have hfz32_1 := xF_ BK308.out 1; have hfz32_2 := xF_ BK308.out 2; have hfz32_3 := xF_ BK308.out 3; have hfz32_4 := xF_ BK308.out 4))
        have n0_ : Aside0 ((((((w29.setCell ⟨gb308, 0, none⟩ (.int .i64 t302)).setCell ⟨gb308, 1, none⟩ (.int .i64 t303)).setCell ⟨gb308, 2, none⟩ (.int .i64 t304)).setCell ⟨gb308, 3, none⟩ (.string t305)).setCell ⟨gb308, 4, none⟩ (.string t306)).heap[gb293]? = some (.cells #[.int .i64 a0_0, .int .i64 a0_1, .int .i64 a0_2, .string a0_3, .string a0_4] 23 (0, 0))) := ⟨by (with_reducible repeat (first | apply xN_ | apply xD_ | apply xA_)); refine xR_ ?_ NB293_308.out _; refine xR_ ?_ NB293_308.out _; refine xR_ ?_ NB293_308.out _; refine xR_ ?_ NB293_308.out _; refine xR_ ?_ NB293_308.out _; (with_reducible repeat (first | apply xN_ | apply xD_ | apply xA_)); exact BK293.out⟩
        have n1_ : Aside0 ((((((w29.setCell ⟨gb308, 0, none⟩ (.int .i64 t302)).setCell ⟨gb308, 1, none⟩ (.int .i64 t303)).setCell ⟨gb308, 2, none⟩ (.int .i64 t304)).setCell ⟨gb308, 3, none⟩ (.string t305)).setCell ⟨gb308, 4, none⟩ (.string t306)).heap[gb301]? = some (.cells #[.int .i64 t295, .int .i64 t296, .int .i64 t297, .string t298, .string t299] 23 (0, 0))) := ⟨by (with_reducible repeat (first | apply xN_ | apply xD_ | apply xA_)); refine xR_ ?_ NB301_308.out _; refine xR_ ?_ NB301_308.out _; refine xR_ ?_ NB301_308.out _; refine xR_ ?_ NB301_308.out _; refine xR_ ?_ NB301_308.out _; (with_reducible repeat (first | apply xN_ | apply xD_ | apply xA_)); exact BK301.out⟩
        have n2_ : Aside0 ((((((w29.setCell ⟨gb308, 0, none⟩ (.int .i64 t302)).setCell ⟨gb308, 1, none⟩ (.int .i64 t303)).setCell ⟨gb308, 2, none⟩ (.int .i64 t304)).setCell ⟨gb308, 3, none⟩ (.string t305)).setCell ⟨gb308, 4, none⟩ (.string t306)).heap[gb308]? = some (.cells #[.int .i64 t302, .int .i64 t303, .int .i64 t304, .string t305, .string t306] 23 (0, 0))) := ⟨by (with_reducible repeat (first | apply xN_ | apply xD_ | apply xA_)); refine blk_put (cs := #[.int .i64 t302, .int .i64 t303, .int .i64 t304, .string t305, .string (⟨#[]⟩ : ByteArray)]) ?_ 4 _ rfl; refine blk_put (cs := #[.int .i64 t302, .int .i64 t303, .int .i64 t304, .string (⟨#[]⟩ : ByteArray), .string (⟨#[]⟩ : ByteArray)]) ?_ 3 _ rfl; refine blk_put (cs := #[.int .i64 t302, .int .i64 t303, .int .i64 0, .string (⟨#[]⟩ : ByteArray), .string (⟨#[]⟩ : ByteArray)]) ?_ 2 _ rfl; refine blk_put (cs := #[.int .i64 t302, .int .i64 0, .int .i64 0, .string (⟨#[]⟩ : ByteArray), .string (⟨#[]⟩ : ByteArray)]) ?_ 1 _ rfl; refine blk_put (cs := #[.int .i64 0, .int .i64 0, .int .i64 0, .string (⟨#[]⟩ : ByteArray), .string (⟨#[]⟩ : ByteArray)]) ?_ 0 _ rfl; (with_reducible repeat (first | apply xN_ | apply xD_ | apply xA_)); exact BK308.out⟩
        have n3_ : Aside0 (Below w.heap.size w (((((w29.setCell ⟨gb308, 0, none⟩ (.int .i64 t302)).setCell ⟨gb308, 1, none⟩ (.int .i64 t303)).setCell ⟨gb308, 2, none⟩ (.int .i64 t304)).setCell ⟨gb308, 3, none⟩ (.string t305)).setCell ⟨gb308, 4, none⟩ (.string t306))) := ⟨by repeat (first | (with_reducible first | exact HB.out | apply yA_ | apply yN_ | apply yD_ | refine yS_ ?_ GE293.out | refine yS_ ?_ GE301.out | refine yS_ ?_ GE308.out) | exact HB.out)⟩
        (try clear BK293)
        (try clear BK301)
        (try clear BK308)
        (try clear HB)
        generalize (((((w29.setCell ⟨gb308, 0, none⟩ (.int .i64 t302)).setCell ⟨gb308, 1, none⟩ (.int .i64 t303)).setCell ⟨gb308, 2, none⟩ (.int .i64 t304)).setCell ⟨gb308, 3, none⟩ (.string t305)).setCell ⟨gb308, 4, none⟩ (.string t306)) = w33 at n0_ n1_ n2_ n3_ ⊢
        have BK293 := n0_
        have BK301 := n1_
        have BK308 := n2_
        have HB := n3_
        clear n0_ n1_ n2_ n3_
        have n0_ := Aside0.mk (xD_ BK293.out)
        have n1_ := Aside0.mk (xD_ BK301.out)
        have n2_ := Aside0.mk (xD_ BK308.out)
        have n3_ := Aside0.mk (yD_ HB.out)
        clear BK293
        clear BK301
        clear BK308
        clear HB
        have BK293 := n0_
        have BK301 := n1_
        have BK308 := n2_
        have HB := n3_
        clear n0_ n1_ n2_ n3_
        refine start_ (n := 26) (S := fun w' => w'.cell? ⟨gb293, 0, none⟩ = some (.int .i64 a0_0) ∧ w'.cell? ⟨gb293, 1, none⟩ = some (.int .i64 a0_1) ∧ w'.cell? ⟨gb293, 2, none⟩ = some (.int .i64 a0_2) ∧ w'.cell? ⟨gb293, 3, none⟩ = some (.string a0_3) ∧ w'.cell? ⟨gb293, 4, none⟩ = some (.string a0_4) ∧ w'.cell? ⟨gb301, 0, none⟩ = some (.int .i64 t295) ∧ w'.cell? ⟨gb301, 1, none⟩ = some (.int .i64 t296) ∧ w'.cell? ⟨gb301, 2, none⟩ = some (.int .i64 t297) ∧ w'.cell? ⟨gb301, 3, none⟩ = some (.string t298) ∧ w'.cell? ⟨gb301, 4, none⟩ = some (.string t299) ∧ w'.cell? ⟨gb308, 0, none⟩ = some (.int .i64 t302) ∧ w'.cell? ⟨gb308, 1, none⟩ = some (.int .i64 t303) ∧ w'.cell? ⟨gb308, 2, none⟩ = some (.int .i64 t304) ∧ w'.cell? ⟨gb308, 3, none⟩ = some (.string t305) ∧ w'.cell? ⟨gb308, 4, none⟩ = some (.string t306)) (ds := []) #[false, false, false, false, false, false, false, false, false, false, false, false, false, false, false, false, false, false, false, false, false, false, false, false, false, false] (by kernel_rfl) rfl rfl ⟨(xC_ BK293.out 0).trans rfl, (xC_ BK293.out 1).trans rfl, (xC_ BK293.out 2).trans rfl, (xC_ BK293.out 3).trans rfl, (xC_ BK293.out 4).trans rfl, (xC_ BK301.out 0).trans rfl, (xC_ BK301.out 1).trans rfl, (xC_ BK301.out 2).trans rfl, (xC_ BK301.out 3).trans rfl, (xC_ BK301.out 4).trans rfl, (xC_ BK308.out 0).trans rfl, (xC_ BK308.out 1).trans rfl, (xC_ BK308.out 2).trans rfl, (xC_ BK308.out 3).trans rfl, (xC_ BK308.out 4).trans rfl⟩ (fun hHeld => ?_); refine with_tabW armadalaw07_VerTells.tab5 armadalaw07_VerTells.bits5 (fun HT_ HW_ => ?_)
        generalize w33.drew = w34 at BK293 BK301 BK308 HB hHeld ⊢
        refine take_ (i := 0) (N := some 35) (v := ?_) (a' := ?_) #[true, false, false, false, false, false, false, false, false, false, false, false, false, false, false, false, false, false, false, false, false, false, false, false, false, false] rfl rfl (take_ofW HT_.out HW_.out (by kernel_rfl)) (fun _ _ _ h => h) (Or.inl ⟨by rfl, ?_⟩) hHeld ?_ ?_
        rotate_left
        ·rintro w' ⟨s0, s1, s2, s3, s4, s5, s6, s7, s8, s9, s10, s11, s12, s13, s14⟩
         go_simp
         with_reducible rfl
        rotate_left
        ·simp only [Act.put, List.setIfInBounds_toArray, List.set_cons_zero, List.set_cons_succ, i64_w, i32_w]
         rfl
        refine take_ (i := 2) (N := some 37) (v := ?_) (a' := ?_) #[true, false, true, false, false, false, false, false, false, false, false, false, false, false, false, false, false, false, false, false, false, false, false, false, false, false] rfl rfl (take_ofW HT_.out HW_.out (by kernel_rfl)) (fun _ _ _ h => h) (Or.inl ⟨by rfl, ?_⟩) hHeld ?_ ?_
        rotate_left
        ·rintro w' ⟨s0, s1, s2, s3, s4, s5, s6, s7, s8, s9, s10, s11, s12, s13, s14⟩
         go_simp
         with_reducible rfl
        rotate_left
        ·simp only [Act.put, List.setIfInBounds_toArray, List.set_cons_zero, List.set_cons_succ, i64_w, i32_w]
         rfl
        refine one_ (i := 1) (N := some 36) #[true, true, true, false, false, false, false, false, false, false, false, false, false, false, false, false, false, false, false, false, false, false, false, false, false, false] rfl rfl (one_of HT_.out (by kernel_rfl)) (by decide) (fun K hK => ?_)
        refine goes_ Tryd.func13 (by kernel_rfl) rfl #[.agg #[.int .i64 a0_0, .int .i64 a0_1, .int .i64 a0_2, .string a0_3, .string a0_4]] (by rfl) rfl rfl (by (try simp only [List.map_toArray, List.map_cons, List.map_nil]); first | done | rfl) ?_
        with_reducible refine (ver_Check.calls a0_0 a0_1 a0_2 a0_3 a0_4 t309 _ A15.out).mono ?_
        rintro e w35 ⟨rfl, hb⟩
        refine ⟨_, rfl, ?_⟩
        have n0_ := Aside0.mk (blk_below (g := gb293) (o := .cells #[.int .i64 a0_0, .int .i64 a0_1, .int .i64 a0_2, .string a0_3, .string a0_4] 23 (0, 0)) (by (with_reducible repeat (first | apply xN_ | apply xD_ | apply xA_)); exact BK293.out) hb)
        have n1_ := Aside0.mk (blk_below (g := gb301) (o := .cells #[.int .i64 t295, .int .i64 t296, .int .i64 t297, .string t298, .string t299] 23 (0, 0)) (by (with_reducible repeat (first | apply xN_ | apply xD_ | apply xA_)); exact BK301.out) hb)
        have n2_ := Aside0.mk (blk_below (g := gb308) (o := .cells #[.int .i64 t302, .int .i64 t303, .int .i64 t304, .string t305, .string t306] 23 (0, 0)) (by (with_reducible repeat (first | apply xN_ | apply xD_ | apply xA_)); exact BK308.out) hb)
        have n3_ := Aside0.mk (below_step (by repeat (first | (with_reducible first | exact HB.out | apply yA_ | apply yN_ | apply yD_ | refine yS_ ?_ GE293.out | refine yS_ ?_ GE301.out | refine yS_ ?_ GE308.out) | exact HB.out)) hb)
        clear BK293
        clear BK301
        clear BK308
        clear HB
        have BK293 := n0_
        have BK301 := n1_
        have BK308 := n2_
        have HB := n3_
        clear n0_ n1_ n2_ n3_
        (try clear hb)
        (try clear hb2)
        (try clear hk)
        (try clear hi)
        refine hK.out _ _ ⟨(xC_ BK293.out 0).trans rfl, (xC_ BK293.out 1).trans rfl, (xC_ BK293.out 2).trans rfl, (xC_ BK293.out 3).trans rfl, (xC_ BK293.out 4).trans rfl, (xC_ BK301.out 0).trans rfl, (xC_ BK301.out 1).trans rfl, (xC_ BK301.out 2).trans rfl, (xC_ BK301.out 3).trans rfl, (xC_ BK301.out 4).trans rfl, (xC_ BK308.out 0).trans rfl, (xC_ BK308.out 1).trans rfl, (xC_ BK308.out 2).trans rfl, (xC_ BK308.out 3).trans rfl, (xC_ BK308.out 4).trans rfl⟩ (fun hHeld => ?_)
        clear hK K
        refine norm_ (a' := ?_) ?_ ?_
        rotate_left
        ·show Act.put _ (some 36) _ = _
         simp only [Act.put, List.setIfInBounds_toArray, List.set_cons_zero, List.set_cons_succ, i64_w, i32_w]
         rfl
        refine one_ (i := 3) (N := some 38) #[true, true, true, true, false, false, false, false, false, false, false, false, false, false, false, false, false, false, false, false, false, false, false, false, false, false] rfl rfl (one_of HT_.out (by kernel_rfl)) (by decide) (fun K hK => ?_)
        refine goes_ Tryd.func14 (by kernel_rfl) rfl #[.agg #[.int .i64 a0_0, .int .i64 a0_1, .int .i64 a0_2, .string a0_3, .string a0_4]] (by rfl) rfl rfl (by (try simp only [List.map_toArray, List.map_cons, List.map_nil]); first | done | rfl) ?_
        with_reducible refine (armadaref07_Check.calls kj2 a0_0 a0_1 a0_2 a0_3 a0_4 t310 _ A16.out).mono ?_
        rintro e w36 ⟨rfl, hb⟩
        refine ⟨_, rfl, ?_⟩
        have n0_ := Aside0.mk (blk_below (g := gb293) (o := .cells #[.int .i64 a0_0, .int .i64 a0_1, .int .i64 a0_2, .string a0_3, .string a0_4] 23 (0, 0)) (by (with_reducible repeat (first | apply xN_ | apply xD_ | apply xA_)); exact BK293.out) hb)
        have n1_ := Aside0.mk (blk_below (g := gb301) (o := .cells #[.int .i64 t295, .int .i64 t296, .int .i64 t297, .string t298, .string t299] 23 (0, 0)) (by (with_reducible repeat (first | apply xN_ | apply xD_ | apply xA_)); exact BK301.out) hb)
        have n2_ := Aside0.mk (blk_below (g := gb308) (o := .cells #[.int .i64 t302, .int .i64 t303, .int .i64 t304, .string t305, .string t306] 23 (0, 0)) (by (with_reducible repeat (first | apply xN_ | apply xD_ | apply xA_)); exact BK308.out) hb)
        have n3_ := Aside0.mk (below_step (by repeat (first | (with_reducible first | exact HB.out | apply yA_ | apply yN_ | apply yD_ | refine yS_ ?_ GE293.out | refine yS_ ?_ GE301.out | refine yS_ ?_ GE308.out) | exact HB.out)) hb)
        clear BK293
        clear BK301
        clear BK308
        clear HB
        have BK293 := n0_
        have BK301 := n1_
        have BK308 := n2_
        have HB := n3_
        clear n0_ n1_ n2_ n3_
        (try clear hb)
        (try clear hb2)
        (try clear hk)
        (try clear hi)
        refine hK.out _ _ ⟨(xC_ BK293.out 0).trans rfl, (xC_ BK293.out 1).trans rfl, (xC_ BK293.out 2).trans rfl, (xC_ BK293.out 3).trans rfl, (xC_ BK293.out 4).trans rfl, (xC_ BK301.out 0).trans rfl, (xC_ BK301.out 1).trans rfl, (xC_ BK301.out 2).trans rfl, (xC_ BK301.out 3).trans rfl, (xC_ BK301.out 4).trans rfl, (xC_ BK308.out 0).trans rfl, (xC_ BK308.out 1).trans rfl, (xC_ BK308.out 2).trans rfl, (xC_ BK308.out 3).trans rfl, (xC_ BK308.out 4).trans rfl⟩ (fun hHeld => ?_)
        clear hK K
        refine norm_ (a' := ?_) ?_ ?_
        rotate_left
        ·show Act.put _ (some 38) _ = _
         simp only [Act.put, List.setIfInBounds_toArray, List.set_cons_zero, List.set_cons_succ, i64_w, i32_w]
         rfl
        refine pure_ (i := 4) (N := some 39) (v := ?_) (a' := ?_) #[true, true, true, true, true, false, false, false, false, false, false, false, false, false, false, false, false, false, false, false, false, false, false, false, false, false] rfl rfl (any_of HT_.out (by kernel_rfl)) (fun _ _ _ h => h) (Or.inl ⟨by rfl, ?_⟩) ?_ ?_
        rotate_left
        ·intro w'
         go_simp
         with_reducible rfl
        rotate_left
        ·simp only [Act.put, List.setIfInBounds_toArray, List.set_cons_zero, List.set_cons_succ, i64_w, i32_w]
         rfl
        refine pure_ (i := 5) (N := some 40) (v := ?_) (a' := ?_) #[true, true, true, true, true, true, false, false, false, false, false, false, false, false, false, false, false, false, false, false, false, false, false, false, false, false] rfl rfl (any_of HT_.out (by kernel_rfl)) (fun _ _ _ h => h) (Or.inl ⟨by rfl, ?_⟩) ?_ ?_
        rotate_left
        ·intro w'
         go_simp
         with_reducible rfl
        rotate_left
        ·simp only [Act.put, List.setIfInBounds_toArray, List.set_cons_zero, List.set_cons_succ, i64_w, i32_w]
         rfl
        refine take_ (i := 6) (N := some 41) (v := ?_) (a' := ?_) #[true, true, true, true, true, true, true, false, false, false, false, false, false, false, false, false, false, false, false, false, false, false, false, false, false, false] rfl rfl (take_ofW HT_.out HW_.out (by kernel_rfl)) (fun _ _ _ h => h) (Or.inl ⟨by rfl, ?_⟩) hHeld ?_ ?_
        rotate_left
        ·rintro w' ⟨s0, s1, s2, s3, s4, s5, s6, s7, s8, s9, s10, s11, s12, s13, s14⟩
         go_simp
         with_reducible rfl
        rotate_left
        ·simp only [Act.put, List.setIfInBounds_toArray, List.set_cons_zero, List.set_cons_succ, i64_w, i32_w]
         rfl
        refine take_ (i := 8) (N := some 43) (v := ?_) (a' := ?_) #[true, true, true, true, true, true, true, false, true, false, false, false, false, false, false, false, false, false, false, false, false, false, false, false, false, false] rfl rfl (take_ofW HT_.out HW_.out (by kernel_rfl)) (fun _ _ _ h => h) (Or.inl ⟨by rfl, ?_⟩) hHeld ?_ ?_
        rotate_left
        ·rintro w' ⟨s0, s1, s2, s3, s4, s5, s6, s7, s8, s9, s10, s11, s12, s13, s14⟩
         go_simp
         with_reducible rfl
        rotate_left
        ·simp only [Act.put, List.setIfInBounds_toArray, List.set_cons_zero, List.set_cons_succ, i64_w, i32_w]
         rfl
        refine one_ (i := 7) (N := some 42) #[true, true, true, true, true, true, true, true, true, false, false, false, false, false, false, false, false, false, false, false, false, false, false, false, false, false] rfl rfl (one_of HT_.out (by kernel_rfl)) (by decide) (fun K hK => ?_)
        refine goes_ Tryd.func15 (by kernel_rfl) rfl #[.agg #[.int .i64 a0_0, .int .i64 a0_1, .int .i64 a0_2, .string a0_3, .string a0_4]] (by rfl) rfl rfl (by (try simp only [List.map_toArray, List.map_cons, List.map_nil]); first | done | rfl) ?_
        with_reducible refine (ver_Text.calls a0_0 a0_1 a0_2 a0_3 a0_4 t311 _ A18.out (LW0 := LW.out.below (by repeat (first | (with_reducible first | exact HB.out | apply yA_ | apply yN_ | apply yD_ | refine yS_ ?_ GE293.out | refine yS_ ?_ GE301.out | refine yS_ ?_ GE308.out) | exact HB.out)))).mono ?_
        rintro e w37 ⟨rfl, hb⟩
        refine ⟨_, rfl, ?_⟩
        have n0_ := Aside0.mk (blk_below (g := gb293) (o := .cells #[.int .i64 a0_0, .int .i64 a0_1, .int .i64 a0_2, .string a0_3, .string a0_4] 23 (0, 0)) (by (with_reducible repeat (first | apply xN_ | apply xD_ | apply xA_)); exact BK293.out) hb)
        have n1_ := Aside0.mk (blk_below (g := gb301) (o := .cells #[.int .i64 t295, .int .i64 t296, .int .i64 t297, .string t298, .string t299] 23 (0, 0)) (by (with_reducible repeat (first | apply xN_ | apply xD_ | apply xA_)); exact BK301.out) hb)
        have n2_ := Aside0.mk (blk_below (g := gb308) (o := .cells #[.int .i64 t302, .int .i64 t303, .int .i64 t304, .string t305, .string t306] 23 (0, 0)) (by (with_reducible repeat (first | apply xN_ | apply xD_ | apply xA_)); exact BK308.out) hb)
        have n3_ := Aside0.mk (below_step (by repeat (first | (with_reducible first | exact HB.out | apply yA_ | apply yN_ | apply yD_ | refine yS_ ?_ GE293.out | refine yS_ ?_ GE301.out | refine yS_ ?_ GE308.out) | exact HB.out)) hb)
        clear BK293
        clear BK301
        clear BK308
        clear HB
        have BK293 := n0_
        have BK301 := n1_
        have BK308 := n2_
        have HB := n3_
        clear n0_ n1_ n2_ n3_
        (try clear hb)
        (try clear hb2)
        (try clear hk)
        (try clear hi)
        refine hK.out _ _ ⟨(xC_ BK293.out 0).trans rfl, (xC_ BK293.out 1).trans rfl, (xC_ BK293.out 2).trans rfl, (xC_ BK293.out 3).trans rfl, (xC_ BK293.out 4).trans rfl, (xC_ BK301.out 0).trans rfl, (xC_ BK301.out 1).trans rfl, (xC_ BK301.out 2).trans rfl, (xC_ BK301.out 3).trans rfl, (xC_ BK301.out 4).trans rfl, (xC_ BK308.out 0).trans rfl, (xC_ BK308.out 1).trans rfl, (xC_ BK308.out 2).trans rfl, (xC_ BK308.out 3).trans rfl, (xC_ BK308.out 4).trans rfl⟩ (fun hHeld => ?_)
        clear hK K
        refine norm_ (a' := ?_) ?_ ?_
        rotate_left
        ·show Act.put _ (some 42) _ = _
         simp only [Act.put, List.setIfInBounds_toArray, List.set_cons_zero, List.set_cons_succ, i64_w, i32_w]
         rfl
        refine one_ (i := 9) (N := some 44) #[true, true, true, true, true, true, true, true, true, true, false, false, false, false, false, false, false, false, false, false, false, false, false, false, false, false] rfl rfl (one_of HT_.out (by kernel_rfl)) (by decide) (fun K hK => ?_)
        refine goes_ Tryd.func16 (by kernel_rfl) rfl #[.agg #[.int .i64 a0_0, .int .i64 a0_1, .int .i64 a0_2, .string a0_3, .string a0_4]] (by rfl) rfl rfl (by (try simp only [List.map_toArray, List.map_cons, List.map_nil]); first | done | rfl) ?_
        with_reducible refine (armadaref07_Text.calls kj2 a0_0 a0_1 a0_2 a0_3 a0_4 t312 _ A19.out).mono ?_
        rintro e w38 ⟨rfl, hb⟩
        refine ⟨_, rfl, ?_⟩
        have n0_ := Aside0.mk (blk_below (g := gb293) (o := .cells #[.int .i64 a0_0, .int .i64 a0_1, .int .i64 a0_2, .string a0_3, .string a0_4] 23 (0, 0)) (by (with_reducible repeat (first | apply xN_ | apply xD_ | apply xA_)); exact BK293.out) hb)
        have n1_ := Aside0.mk (blk_below (g := gb301) (o := .cells #[.int .i64 t295, .int .i64 t296, .int .i64 t297, .string t298, .string t299] 23 (0, 0)) (by (with_reducible repeat (first | apply xN_ | apply xD_ | apply xA_)); exact BK301.out) hb)
        have n2_ := Aside0.mk (blk_below (g := gb308) (o := .cells #[.int .i64 t302, .int .i64 t303, .int .i64 t304, .string t305, .string t306] 23 (0, 0)) (by (with_reducible repeat (first | apply xN_ | apply xD_ | apply xA_)); exact BK308.out) hb)
        have n3_ := Aside0.mk (below_step (by repeat (first | (with_reducible first | exact HB.out | apply yA_ | apply yN_ | apply yD_ | refine yS_ ?_ GE293.out | refine yS_ ?_ GE301.out | refine yS_ ?_ GE308.out) | exact HB.out)) hb)
        clear BK293
        clear BK301
        clear BK308
        clear HB
        have BK293 := n0_
        have BK301 := n1_
        have BK308 := n2_
        have HB := n3_
        clear n0_ n1_ n2_ n3_
        (try clear hb)
        (try clear hb2)
        (try clear hk)
        (try clear hi)
        refine hK.out _ _ ⟨(xC_ BK293.out 0).trans rfl, (xC_ BK293.out 1).trans rfl, (xC_ BK293.out 2).trans rfl, (xC_ BK293.out 3).trans rfl, (xC_ BK293.out 4).trans rfl, (xC_ BK301.out 0).trans rfl, (xC_ BK301.out 1).trans rfl, (xC_ BK301.out 2).trans rfl, (xC_ BK301.out 3).trans rfl, (xC_ BK301.out 4).trans rfl, (xC_ BK308.out 0).trans rfl, (xC_ BK308.out 1).trans rfl, (xC_ BK308.out 2).trans rfl, (xC_ BK308.out 3).trans rfl, (xC_ BK308.out 4).trans rfl⟩ (fun hHeld => ?_)
        clear hK K
        refine norm_ (a' := ?_) ?_ ?_
        rotate_left
        ·show Act.put _ (some 44) _ = _
         simp only [Act.put, List.setIfInBounds_toArray, List.set_cons_zero, List.set_cons_succ, i64_w, i32_w]
         rfl
        refine pure_ (i := 10) (N := some 45) (v := ?_) (a' := ?_) #[true, true, true, true, true, true, true, true, true, true, true, false, false, false, false, false, false, false, false, false, false, false, false, false, false, false] rfl rfl (any_of HT_.out (by kernel_rfl)) (fun _ _ _ h => h) (Or.inl ⟨by rfl, ?_⟩) ?_ ?_
        rotate_left
        ·intro w'
         go_simp
         with_reducible rfl
        rotate_left
        ·simp only [Act.put, List.setIfInBounds_toArray, List.set_cons_zero, List.set_cons_succ, i64_w, i32_w]
         rfl
        refine pure_ (i := 11) (N := some 46) (v := ?_) (a' := ?_) #[true, true, true, true, true, true, true, true, true, true, true, true, false, false, false, false, false, false, false, false, false, false, false, false, false, false] rfl rfl (any_of HT_.out (by kernel_rfl)) (fun _ _ _ h => h) (Or.inl ⟨by rfl, ?_⟩) ?_ ?_
        rotate_left
        ·intro w'
         go_simp
         with_reducible rfl
        rotate_left
        ·simp only [Act.put, List.setIfInBounds_toArray, List.set_cons_zero, List.set_cons_succ, i64_w, i32_w]
         rfl
        refine pure_ (i := 12) (N := some 47) (v := ?_) (a' := ?_) #[true, true, true, true, true, true, true, true, true, true, true, true, true, false, false, false, false, false, false, false, false, false, false, false, false, false] rfl rfl (any_of HT_.out (by kernel_rfl)) (fun _ _ _ h => h) (Or.inl ⟨by rfl, ?_⟩) ?_ ?_
        rotate_left
        ·intro w'
         go_simp
         with_reducible rfl
        rotate_left
        ·simp only [Act.put, List.setIfInBounds_toArray, List.set_cons_zero, List.set_cons_succ, i64_w, i32_w]
         rfl
        refine take_ (i := 13) (N := some 48) (v := ?_) (a' := ?_) #[true, true, true, true, true, true, true, true, true, true, true, true, true, true, false, false, false, false, false, false, false, false, false, false, false, false] rfl rfl (take_ofW HT_.out HW_.out (by kernel_rfl)) (fun _ _ _ h => h) (Or.inl ⟨by rfl, ?_⟩) hHeld ?_ ?_
        rotate_left
        ·rintro w' ⟨s0, s1, s2, s3, s4, s5, s6, s7, s8, s9, s10, s11, s12, s13, s14⟩
         go_simp
         with_reducible rfl
        rotate_left
        ·simp only [Act.put, List.setIfInBounds_toArray, List.set_cons_zero, List.set_cons_succ, i64_w, i32_w]
         rfl
        refine take_ (i := 14) (N := some 49) (v := ?_) (a' := ?_) #[true, true, true, true, true, true, true, true, true, true, true, true, true, true, true, false, false, false, false, false, false, false, false, false, false, false] rfl rfl (take_ofW HT_.out HW_.out (by kernel_rfl)) (fun _ _ _ h => h) (Or.inl ⟨by rfl, ?_⟩) hHeld ?_ ?_
        rotate_left
        ·rintro w' ⟨s0, s1, s2, s3, s4, s5, s6, s7, s8, s9, s10, s11, s12, s13, s14⟩
         go_simp
         with_reducible rfl
        rotate_left
        ·simp only [Act.put, List.setIfInBounds_toArray, List.set_cons_zero, List.set_cons_succ, i64_w, i32_w]
         rfl
        refine pure_ (i := 15) (N := some 50) (v := ?_) (a' := ?_) #[true, true, true, true, true, true, true, true, true, true, true, true, true, true, true, true, false, false, false, false, false, false, false, false, false, false] rfl rfl (any_of HT_.out (by kernel_rfl)) (fun _ _ _ h => h) (Or.inl ⟨by rfl, ?_⟩) ?_ ?_
        rotate_left
        ·intro w'
         go_simp
         with_reducible rfl
        rotate_left
        ·simp only [Act.put, List.setIfInBounds_toArray, List.set_cons_zero, List.set_cons_succ, i64_w, i32_w]
         rfl
        refine pure_ (i := 16) (N := some 51) (v := ?_) (a' := ?_) #[true, true, true, true, true, true, true, true, true, true, true, true, true, true, true, true, true, false, false, false, false, false, false, false, false, false] rfl rfl (any_of HT_.out (by kernel_rfl)) (fun _ _ _ h => h) (Or.inl ⟨by rfl, ?_⟩) ?_ ?_
        rotate_left
        ·intro w'
         go_simp
         with_reducible rfl
        rotate_left
        ·simp only [Act.put, List.setIfInBounds_toArray, List.set_cons_zero, List.set_cons_succ, i64_w, i32_w]
         rfl
        refine pure_ (i := 17) (N := some 52) (v := ?_) (a' := ?_) #[true, true, true, true, true, true, true, true, true, true, true, true, true, true, true, true, true, true, false, false, false, false, false, false, false, false] rfl rfl (any_of HT_.out (by kernel_rfl)) (fun _ _ _ h => h) (Or.inl ⟨by rfl, ?_⟩) ?_ ?_
        rotate_left
        ·intro w'
         go_simp
         with_reducible rfl
        rotate_left
        ·simp only [Act.put, List.setIfInBounds_toArray, List.set_cons_zero, List.set_cons_succ, i64_w, i32_w]
         rfl
        refine pure_ (i := 18) (N := some 53) (v := ?_) (a' := ?_) #[true, true, true, true, true, true, true, true, true, true, true, true, true, true, true, true, true, true, true, false, false, false, false, false, false, false] rfl rfl (any_of HT_.out (by kernel_rfl)) (fun _ _ _ h => h) (Or.inl ⟨by rfl, ?_⟩) ?_ ?_
        rotate_left
        ·intro w'
         go_simp
         with_reducible rfl
        rotate_left
        ·simp only [Act.put, List.setIfInBounds_toArray, List.set_cons_zero, List.set_cons_succ, i64_w, i32_w]
         rfl
        refine pure_ (i := 19) (N := some 54) (v := ?_) (a' := ?_) #[true, true, true, true, true, true, true, true, true, true, true, true, true, true, true, true, true, true, true, true, false, false, false, false, false, false] rfl rfl (any_of HT_.out (by kernel_rfl)) (fun _ _ _ h => h) (Or.inl ⟨by rfl, ?_⟩) ?_ ?_
        rotate_left
        ·intro w'
         go_simp
         with_reducible rfl
        rotate_left
        ·simp only [Act.put, List.setIfInBounds_toArray, List.set_cons_zero, List.set_cons_succ, i64_w, i32_w]
         rfl
        refine pure_ (i := 20) (N := some 55) (v := ?_) (a' := ?_) #[true, true, true, true, true, true, true, true, true, true, true, true, true, true, true, true, true, true, true, true, true, false, false, false, false, false] rfl rfl (any_of HT_.out (by kernel_rfl)) (fun _ _ _ h => h) (Or.inl ⟨by rfl, ?_⟩) ?_ ?_
        rotate_left
        ·intro w'
         go_simp
         with_reducible rfl
        rotate_left
        ·simp only [Act.put, List.setIfInBounds_toArray, List.set_cons_zero, List.set_cons_succ, i64_w, i32_w]
         rfl
        refine pure_ (i := 21) (N := some 56) (v := ?_) (a' := ?_) #[true, true, true, true, true, true, true, true, true, true, true, true, true, true, true, true, true, true, true, true, true, true, false, false, false, false] rfl rfl (any_of HT_.out (by kernel_rfl)) (fun _ _ _ h => h) (Or.inl ⟨by rfl, ?_⟩) ?_ ?_
        rotate_left
        ·intro w'
         go_simp
         with_reducible rfl
        rotate_left
        ·simp only [Act.put, List.setIfInBounds_toArray, List.set_cons_zero, List.set_cons_succ, i64_w, i32_w]
         rfl
        refine pure_ (i := 22) (N := some 57) (v := ?_) (a' := ?_) #[true, true, true, true, true, true, true, true, true, true, true, true, true, true, true, true, true, true, true, true, true, true, true, false, false, false] rfl rfl (any_of HT_.out (by kernel_rfl)) (fun _ _ _ h => h) (Or.inl ⟨by rfl, ?_⟩) ?_ ?_
        rotate_left
        ·intro w'
         go_simp
         with_reducible rfl
        rotate_left
        ·simp only [Act.put, List.setIfInBounds_toArray, List.set_cons_zero, List.set_cons_succ, i64_w, i32_w]
         rfl
        refine one_ (i := 23) (N := some 58) #[true, true, true, true, true, true, true, true, true, true, true, true, true, true, true, true, true, true, true, true, true, true, true, true, false, false] rfl rfl (one_of HT_.out (by kernel_rfl)) (by decide) (fun K hK => ?_)
        refine goes_ Tryd.func10 (by kernel_rfl) rfl #[] (by rfl) rfl rfl (by (try simp only [List.map_toArray, List.map_cons, List.map_nil]); first | done | rfl) ?_
        with_reducible refine (armadalaw07_live.calls kj2  true _ A23.out (LW0 := LW.out.below (by repeat (first | (with_reducible first | exact HB.out | apply yA_ | apply yN_ | apply yD_ | refine yS_ ?_ GE293.out | refine yS_ ?_ GE301.out | refine yS_ ?_ GE308.out) | exact HB.out)))).mono ?_
        rintro e w39 ⟨rfl, hb⟩
        refine ⟨_, rfl, ?_⟩
        have n0_ := Aside0.mk (blk_below (g := gb293) (o := .cells #[.int .i64 a0_0, .int .i64 a0_1, .int .i64 a0_2, .string a0_3, .string a0_4] 23 (0, 0)) (by (with_reducible repeat (first | apply xN_ | apply xD_ | apply xA_)); exact BK293.out) hb)
        have n1_ := Aside0.mk (blk_below (g := gb301) (o := .cells #[.int .i64 t295, .int .i64 t296, .int .i64 t297, .string t298, .string t299] 23 (0, 0)) (by (with_reducible repeat (first | apply xN_ | apply xD_ | apply xA_)); exact BK301.out) hb)
        have n2_ := Aside0.mk (blk_below (g := gb308) (o := .cells #[.int .i64 t302, .int .i64 t303, .int .i64 t304, .string t305, .string t306] 23 (0, 0)) (by (with_reducible repeat (first | apply xN_ | apply xD_ | apply xA_)); exact BK308.out) hb)
        have n3_ := Aside0.mk (below_step (by repeat (first | (with_reducible first | exact HB.out | apply yA_ | apply yN_ | apply yD_ | refine yS_ ?_ GE293.out | refine yS_ ?_ GE301.out | refine yS_ ?_ GE308.out) | exact HB.out)) hb)
        clear BK293
        clear BK301
        clear BK308
        clear HB
        have BK293 := n0_
        have BK301 := n1_
        have BK308 := n2_
        have HB := n3_
        clear n0_ n1_ n2_ n3_
        (try clear hb)
        (try clear hb2)
        (try clear hk)
        (try clear hi)
        refine hK.out _ _ ⟨(xC_ BK293.out 0).trans rfl, (xC_ BK293.out 1).trans rfl, (xC_ BK293.out 2).trans rfl, (xC_ BK293.out 3).trans rfl, (xC_ BK293.out 4).trans rfl, (xC_ BK301.out 0).trans rfl, (xC_ BK301.out 1).trans rfl, (xC_ BK301.out 2).trans rfl, (xC_ BK301.out 3).trans rfl, (xC_ BK301.out 4).trans rfl, (xC_ BK308.out 0).trans rfl, (xC_ BK308.out 1).trans rfl, (xC_ BK308.out 2).trans rfl, (xC_ BK308.out 3).trans rfl, (xC_ BK308.out 4).trans rfl⟩ (fun hHeld => ?_)
        clear hK K
        refine norm_ (a' := ?_) ?_ ?_
        rotate_left
        ·show Act.put _ (some 58) _ = _
         simp only [Act.put, List.setIfInBounds_toArray, List.set_cons_zero, List.set_cons_succ, i64_w, i32_w]
         rfl
        refine pure_ (i := 24) (N := some 59) (v := ?_) (a' := ?_) #[true, true, true, true, true, true, true, true, true, true, true, true, true, true, true, true, true, true, true, true, true, true, true, true, true, false] rfl rfl (any_of HT_.out (by kernel_rfl)) (fun _ _ _ h => h) (Or.inl ⟨by rfl, ?_⟩) ?_ ?_
        rotate_left
        ·intro w'
         go_simp
         with_reducible rfl
        rotate_left
        ·simp only [Act.put, List.setIfInBounds_toArray, List.set_cons_zero, List.set_cons_succ, i64_w, i32_w]
         rfl
        refine pure_ (i := 25) (N := some 4) (v := ?_) (a' := ?_) #[true, true, true, true, true, true, true, true, true, true, true, true, true, true, true, true, true, true, true, true, true, true, true, true, true, true] rfl rfl (any_of HT_.out (by kernel_rfl)) (fun _ _ _ h => h) (Or.inl ⟨by rfl, ?_⟩) ?_ ?_
        rotate_left
        ·intro w'
         go_simp
         with_reducible rfl
        rotate_left
        ·simp only [Act.put, List.setIfInBounds_toArray, List.set_cons_zero, List.set_cons_succ, i64_w, i32_w]
         rfl
        refine done_ (done_of HT_.out (by kernel_rfl)) ?_
        try go_wp2
        go_ret
        exact ⟨by first | rfl | (simp [errW_none, errW_some] <;> rfl) | (simp [*, errW_none, errW_some] <;> rfl), by repeat (first | (with_reducible first | exact HB.out | apply yA_ | apply yN_ | apply yD_ | refine yS_ ?_ GE293.out | refine yS_ ?_ GE301.out | refine yS_ ?_ GE308.out) | exact HB.out)⟩
       ·rw [if_neg c22] at H
        have c22b0 : (t300 == t307) = false := by simpa using c22
        (try (have c22b1 : decide (t300 = t307) = false := by simpa using c22))
        (try (have c22b2 : (t300 == t307) = false := by simpa using c22))
        (try (have c22b3 : ¬ (t300 = t307) := by simpa using c22))
        clear c22
        exact absurd H (by simp)
      ·rw [if_neg c21] at H
       have c21b0 : (t295 == t302 && (t296 == t303 && (t297 == t304 && (t298.toList == t305.toList && (t299.toList == t306.toList))))) = false := by simpa using c21
       (try (have c21b1 : decide (t295 = t302 && (t296 == t303 && (t297 == t304 && (t298.toList == t305.toList && (t299.toList == t306.toList))))) = false := by simpa using c21))
       (try (have c21b2 : (t295 == t302 && (t296 == t303 && (t297 == t304 && (t298.toList == t305.toList && (t299.toList == t306.toList))))) = false := by simpa using c21))
       (try (have c21b3 : ¬ (t295 = t302 && (t296 == t303 && (t297 == t304 && (t298.toList == t305.toList && (t299.toList == t306.toList))))) := by simpa using c21))
       clear c21
       exact absurd H (by simp)
     ·rw [if_neg c20] at H
      have c20b0 : (t311.toList == t312.toList) = false := beq_eq_false_iff_ne.mpr c20
      have c20b1 : (t311.toList != t312.toList) = true := bne_iff_ne.mpr c20
      exact absurd H (by simp)
    ·rw [if_neg c17] at H
     have c17b0 : (t309 == t310) = false := by simpa using c17
     (try (have c17b1 : decide (t309 = t310) = false := by simpa using c17))
     (try (have c17b2 : (t309 == t310) = false := by simpa using c17))
     (try (have c17b3 : ¬ (t309 = t310) := by simpa using c17))
     clear c17
     exact absurd H (by simp)
end
end Go.Proofs.YthoiepkejhhcoaaDoor.P
