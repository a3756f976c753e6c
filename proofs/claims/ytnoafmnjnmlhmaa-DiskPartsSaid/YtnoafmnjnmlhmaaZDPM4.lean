/- Printed functions, merged. -/
import Derived.Test.YtnoafmnjnmlhmaaZDPM0
import Derived.Test.YtnoafmnjnmlhmaaZDPKSh
import Derived.Test.YtnoafmnjnmlhmaaZDPM3
import Derived.Test.YtnoafmnjnmlhmaaZDPM2
import Derived.Test.YtnoafmnjnmlhmaaZDPKFlush
import Derived.Test.YtnoafmnjnmlhmaaZDPAl
namespace Go.Proofs.Ytnoafmnjnmlhmaa.P
open Go.RowKit Go.Proofs.YtnoafmnjnmlhmaaW.PrintWords Go.Proofs.YtnoafmnjnmlhmaaW.PrintLast Go.Proofs.YtnoafmnjnmlhmaaW.PrintMore
attribute [local go_sem] max2_int min2_int max_two min_two max_three min_three max_four min_four   -- for this text's walks alone
set_option linter.unusedVariables false
set_option linter.unusedSimpArgs false
def armadalaw01_DiskParts.j0 : Nat → List (S49) → Int → Bool → List ByteArray → List (S27) → Option (Bool)
 | 0, _, _, _, _, _ => none
 | k + 1, x1, x2, x34, x504000, x504001 => if x34 = true then ((armadalaw01_live.f k).bind fun t506 => (some t506)) else ((disk_Run.f k x504000 x504001 x1 (x1.length : Int)).bind fun bt507 => ((disk_Run.f k x504000 x504001 x1 x2).bind fun bt515 => (if 0 ≤ x2 then (if x2 ≤ (x1.length : Int) then ((disk_Run.f k bt515.1 bt515.2.1 (x1.drop (x2 : Int).toNat) (wrap64 ((x1.length : Int) - x2))).bind fun bt527 => (if bt507.2.2 = 0 then ((disk_Flush.f bt507.1 bt507.2.1).bind fun bt539 => ((disk_Flush.f bt539.1 bt539.2.1).bind fun bt547 => (if bt515.2.2 = 0 then (if bt527.2.2 = 0 then ((armadaref01_Same.f k bt507.1 bt507.2.1 bt527.1 bt527.2.1).bind fun t555 => (if t555 = true then ((armadaref01_Same.f k bt539.1 bt539.2.1 bt547.1 bt547.2.1).bind fun t556 => (if t556 = true then ((armadalaw01_live.f k).bind fun t557 => (some t557)) else (some false))) else (some false))) else (some false)) else (some false)))) else (if bt515.2.2 = 0 then (if bt527.2.2 = 0 then (some false) else ((armadaref01_Same.f k bt507.1 bt507.2.1 x504000 x504001).bind fun t535 => (if t535 = true then ((armadalaw01_live.f k).bind fun t536 => (some t536)) else (some false)))) else ((armadaref01_Same.f k bt507.1 bt507.2.1 x504000 x504001).bind fun t537 => (if t537 = true then ((armadalaw01_live.f k).bind fun t538 => (some t538)) else (some false)))))) else (none)) else (none))))
def armadalaw01_DiskParts.f (k : Nat) (l0_0 : List ByteArray) (l0_1 : List (S27)) (l1 : List (S49)) (a2 : Int) : Option (Bool) := (armadaref01_Small.f k l0_0 l0_1).bind fun t504 => (if t504 = true then ((armadaref01_Few.f k l1).bind fun t505 => (if t505 = true then (if a2 < 0 then (armadalaw01_DiskParts.j0 k l1 a2 true l0_0 l0_1) else (armadalaw01_DiskParts.j0 k l1 a2 (decide (a2 > (l1.length : Int))) l0_0 l0_1)) else (armadalaw01_DiskParts.j0 k l1 a2 true l0_0 l0_1))) else (armadalaw01_DiskParts.j0 k l1 a2 true l0_0 l0_1))
theorem armadalaw01_DiskParts.mono_l : ∀ k, (∀ y0 y1 y2 y3 y4, LeO (armadalaw01_DiskParts.j0 k y0 y1 y2 y3 y4) (armadalaw01_DiskParts.j0 (k + 1) y0 y1 y2 y3 y4))
 | 0 => fun _ _ _ _ _ r h => by simp [armadalaw01_DiskParts.j0] at h
 | k + 1 => by
  have ih0 := armadalaw01_DiskParts.mono_l k
  ·intro y0 y1 y2 y3 y4
   unfold armadalaw01_DiskParts.j0
   repeat' first
   | (with_reducible exact ih0 _ _ _ _ _)
   | (with_reducible exact armadalaw01_live.mono _)
   | (with_reducible exact armadaref01_Few.mono _ _)
   | (with_reducible exact armadaref01_Same.mono _ _ _ _ _)
   | (with_reducible exact armadaref01_Small.mono _ _ _)
   | (with_reducible exact disk_Run.mono _ _ _ _ _)
   | (with_reducible exact LeO.refl _)
   | (with_reducible exact LeO.none _)
   | (with_reducible refine LeO.ite ?_ ?_)
   | (with_reducible refine LeO.bind ?_ (fun _ => ?_))
   | exact ih0 _ _ _ _ _
   | exact armadalaw01_live.mono _
   | exact armadaref01_Few.mono _ _
   | exact armadaref01_Same.mono _ _ _ _ _
   | exact armadaref01_Small.mono _ _ _
   | exact disk_Run.mono _ _ _ _ _
   | exact LeO.none _
   | refine LeO.ite ?_ ?_
   | refine LeO.bind ?_ (fun _ => ?_)
theorem armadalaw01_DiskParts.mono : ∀ a0 a1 a2 a3 k, LeO (armadalaw01_DiskParts.f k a0 a1 a2 a3) (armadalaw01_DiskParts.f (k + 1) a0 a1 a2 a3) := by
 intro a0 a1 a2 a3 k
 have ih0 := armadalaw01_DiskParts.mono_l k
 unfold armadalaw01_DiskParts.f
 repeat' first
   | (with_reducible exact ih0 _ _ _ _ _)
   | (with_reducible exact armadalaw01_live.mono _)
   | (with_reducible exact armadaref01_Few.mono _ _)
   | (with_reducible exact armadaref01_Same.mono _ _ _ _ _)
   | (with_reducible exact armadaref01_Small.mono _ _ _)
   | (with_reducible exact disk_Run.mono _ _ _ _ _)
   | (with_reducible exact LeO.refl _)
   | (with_reducible exact LeO.none _)
   | (with_reducible refine LeO.ite ?_ ?_)
   | (with_reducible refine LeO.bind ?_ (fun _ => ?_))
   | exact ih0 _ _ _ _ _
   | exact armadalaw01_live.mono _
   | exact armadaref01_Few.mono _ _
   | exact armadaref01_Same.mono _ _ _ _ _
   | exact armadaref01_Small.mono _ _ _
   | exact disk_Run.mono _ _ _ _ _
   | exact LeO.none _
   | refine LeO.ite ?_ ?_
   | refine LeO.bind ?_ (fun _ => ?_)
def armadalaw01_DiskParts.T5 : Bool × List (List Nat × List Nat) := (true, [([], []), ([], []), ([], []), ([1, 2], [1, 2]), ([], []), ([4], [4]), ([], []), ([5, 6], [5, 6]), ([0, 3, 7], [0, 3, 7]), ([8], [8]), ([9], [9]), ([9], [9]), ([], []), ([12, 10, 8, 0, 1, 2, 3, 4, 5, 6, 7, 8, 9, 10, 12], [10, 12]), ([11, 13, 0, 1, 2, 3, 4, 5, 6, 7, 8, 9, 10, 11, 12, 13], [11])])
def armadalaw01_DiskParts.B5 : List Nat := [0, 0, 0, 6, 0, 16, 0, 112, 255, 511, 1023, 1023, 0, 6143, 16383]
theorem armadalaw01_DiskParts.tab5 : rtab .any (opsOf Try.f7 5) = armadalaw01_DiskParts.T5 := by kernel_rfl
theorem armadalaw01_DiskParts.bits5 : waitsOk armadalaw01_DiskParts.T5.2 armadalaw01_DiskParts.B5 = true := by kernel_rfl
set_option maxHeartbeats 8000000 in
set_option maxRecDepth 100000 in
theorem armadalaw01_DiskParts.calls (k : Nat) (A0_0 : Option Addr) (c0_0 : Nat) (l0_0 : List ByteArray) (A0_1 : Option Addr) (c0_1 : Nat) (l0_1 : List (S27)) (A1 : Option Addr) (c1 : Nat) (l1 : List (S49)) (a2 : Int) (r : Bool) (w : World) (hr0_0 : Kd.C Kd.string w A0_0 l0_0.length l0_0) (hc0_0 : l0_0.length ≤ c0_0) (hr0_1 : Kd.C k27 w A0_1 l0_1.length l0_1) (hc0_1 : l0_1.length ≤ c0_1) (hr1 : Kd.C k49 w A1 l1.length l1) (hc1 : l1.length ≤ c1) (h : armadalaw01_DiskParts.f k l0_0 l0_1 l1 a2 = some r) (hT_ : r = true := by rfl) :
  Calls Try.prog 7 #[.agg #[.slice A0_0 l0_0.length c0_0, .slice A0_1 l0_1.length c0_1], .slice A1 l1.length c1, .int .i64 a2] w fun e w' => e = .returned (.bool r) ∧ Below w.heap.size w w' := by
 subst hT_
 have hu25 := Try.underlying25
 have HR0_0 := Aside0.mk hr0_0
 have HC0_0 := Aside0.mk hc0_0
 clear hr0_0 hc0_0
 have HR0_1 := Aside0.mk hr0_1
 have HC0_1 := Aside0.mk hc0_1
 clear hr0_1 hc0_1
 have HR1 := Aside0.mk hr1
 have HC1 := Aside0.mk hc1
 clear hr1 hc1
 have HB := Aside0.mk (Below.refl w.heap.size w)
 have H : ((armadaref01_Small.f k l0_0 l0_1).bind fun t504 => (if t504 = true then ((armadaref01_Few.f k l1).bind fun t505 => (if t505 = true then (if a2 < 0 then (armadalaw01_DiskParts.j0 k l1 a2 true l0_0 l0_1) else (armadalaw01_DiskParts.j0 k l1 a2 (decide (a2 > (l1.length : Int))) l0_0 l0_1)) else (armadalaw01_DiskParts.j0 k l1 a2 true l0_0 l0_1))) else (armadalaw01_DiskParts.j0 k l1 a2 true l0_0 l0_1))) = some true := h
 clear h
 have HC4 := Aside0.mk H
 clear H
 go_enter Try.func7, Try.ntmps7
 go_upto_region 1 with (first | ((with_reducible refine gate_dst (N := 3) rfl ?_); (try (refine gate_guard (by rfl) ?_; dsimp only)); refine box_event ?hg (N := 3) ?hd (cs := #[.slice A0_0 l0_0.length c0_0, .slice A0_1 l0_1.length c0_1]) (t := 25) ?hr ?_; (case hd => rfl); (case hg => rfl); (case hr => first | (go_simp; done) | (go_simp; rfl)); intro gb503 hg w5 hbox hb; have hz_ := zq HB (by repeat (first | (with_reducible first | exact Below.refl _ _ | apply yA_ | apply yN_ | apply yD_) | exact Below.refl _ _)) hb; replace hb := below_step hz_ hb; have BK503 := Aside0.mk hbox; have GW503 := zG HB hz_ hg; have GE503 := zG HB hz_ hg; replace HB := zH HB hb; clear hz_; clear hb hbox hg))
 (try simp only [Act.put, List.setIfInBounds_toArray, List.set_cons_zero, List.set_cons_succ])
 go_cut [34] (fun v34 wc => ∃ (kq : Nat) (x34_3 : Bool), v34 = .bool x34_3 ∧ Aside0 (armadalaw01_DiskParts.j0 kq l1 a2 x34_3 l0_0 l0_1 = some true) ∧ Aside0 (kq ≤ k) ∧ Aside0 (wc.heap[gb503]? = some (.cells #[(.slice A0_0 l0_0.length c0_0), (.slice A0_1 l0_1.length c0_1)] 25 (0, 0))) ∧ Aside0 (Below w.heap.size w wc))
 case first =>
  have H := HC4.out
  clear HC4
  replace H := Option.bind_eq_some_iff.mp H
  obtain ⟨t504, A60, H⟩ := H
  replace H : (if t504 = true then ((armadaref01_Few.f k l1).bind fun t505 => (if t505 = true then (if a2 < 0 then (armadalaw01_DiskParts.j0 k l1 a2 true l0_0 l0_1) else (armadalaw01_DiskParts.j0 k l1 a2 (decide (a2 > (l1.length : Int))) l0_0 l0_1)) else (armadalaw01_DiskParts.j0 k l1 a2 true l0_0 l0_1))) else (armadalaw01_DiskParts.j0 k l1 a2 true l0_0 l0_1)) = some true := H
  have A6 := Aside0.mk A60
  clear A60
  by_cases c7 : t504 = true
  ·subst c7
   have H1 : ((armadaref01_Few.f k l1).bind fun t505 => (if t505 = true then (if a2 < 0 then (armadalaw01_DiskParts.j0 k l1 a2 true l0_0 l0_1) else (armadalaw01_DiskParts.j0 k l1 a2 (decide (a2 > (l1.length : Int))) l0_0 l0_1)) else (armadalaw01_DiskParts.j0 k l1 a2 true l0_0 l0_1))) = some true := by rw [if_pos rfl] at H; exact H
   clear H
   have H := H1
   clear H1
   replace H := Option.bind_eq_some_iff.mp H
   obtain ⟨t505, A80, H⟩ := H
   replace H : (if t505 = true then (if a2 < 0 then (armadalaw01_DiskParts.j0 k l1 a2 true l0_0 l0_1) else (armadalaw01_DiskParts.j0 k l1 a2 (decide (a2 > (l1.length : Int))) l0_0 l0_1)) else (armadalaw01_DiskParts.j0 k l1 a2 true l0_0 l0_1)) = some true := H
   have A8 := Aside0.mk A80
   clear A80
   by_cases c9 : t505 = true
   ·subst c9
    have H1 : (if a2 < 0 then (armadalaw01_DiskParts.j0 k l1 a2 true l0_0 l0_1) else (armadalaw01_DiskParts.j0 k l1 a2 (decide (a2 > (l1.length : Int))) l0_0 l0_1)) = some true := by rw [if_pos rfl] at H; exact H
    clear H
    have H := H1
    clear H1
    by_cases c10 : a2 < 0
    ·rw [if_pos c10] at H
     have c10b0 : decide (a2 < 0) = true := decide_eq_true c10
     clear c10
     (first | rw [c10b0] | (simp only [i64_w, i32_w]; rw [c10b0]) | skip)
     have H' := Aside0.mk H
     clear H
     have hcz11_0 : w5.cell? ⟨gb503, 0, none⟩ = some (.slice A0_0 l0_0.length c0_0) := (xC_ BK503.out 0).trans rfl
     have hcz11_1 : w5.cell? ⟨gb503, 1, none⟩ = some (.slice A0_1 l0_1.length c0_1) := (xC_ BK503.out 1).trans rfl
     have hfz11_0 := xF_ BK503.out 0
     have hfz11_1 := xF_ BK503.out 1
     go_wp2_with (first | ((with_reducible refine gate_callee (f := 9) rfl ?_); refine goesL_ (some 18) rfl rfl Try.func9 (by kernel_rfl) rfl #[.agg #[.slice A0_0 l0_0.length c0_0, .slice A0_1 l0_1.length c0_1]] rfl (by (try simp only [List.map_toArray, List.map_cons, List.map_nil]); first | done | rfl) ?_; (with_reducible refine (armadaref01_Small.calls k _ _ l0_0 _ _ l0_1 true _ ?side1 ?side2 ?side3 ?side4 A6.out).mono ?_); (case side1 => repeat (first | exact (Kd.C_below HR0_0.out HB.out) | (with_reducible refine Kd.C_alloc ?_ _) | (with_reducible refine Kd.C_drewN ?_ _) | (with_reducible refine Kd.C_drew ?_))); (case side2 => exact HC0_0.out); (case side3 => repeat (first | exact (Kd.C_below HR0_1.out HB.out) | (with_reducible refine Kd.C_alloc ?_ _) | (with_reducible refine Kd.C_drewN ?_ _) | (with_reducible refine Kd.C_drew ?_))); (case side4 => exact HC0_1.out); rintro e w12 ⟨rfl, hb⟩; refine ⟨_, rfl, ?_⟩; have hz_ := zq HB (by repeat (first | (with_reducible first | exact Below.refl _ _ | apply yA_ | apply yN_ | apply yD_) | exact Below.refl _ _)) hb; replace hb := below_step hz_ hb; replace BK503 := zB BK503 hb; replace HB := zH HB hb; clear hz_; (try clear hb)) | (go_at_call 25; (with_reducible refine (armadaref01_Few.calls k _ _ l1 true _ ?side1 ?side2 A8.out).mono ?_); (case side1 => repeat (first | exact (Kd.C_below HR1.out HB.out) | (with_reducible refine Kd.C_alloc ?_ _) | (with_reducible refine Kd.C_drewN ?_ _) | (with_reducible refine Kd.C_drew ?_))); (case side2 => exact HC1.out); rintro e w' ⟨rfl, ⟨nd, rfl⟩⟩))
     go_meet
     case rel => exact ⟨_, (true), (by first | rfl | (simp; done) | (simp [*]; done)), H', ⟨by first | omega | exact Nat.le_refl _⟩, ⟨by (with_reducible repeat (first | apply xN_ | apply xD_ | apply xA_)); exact BK503.out⟩, ⟨by repeat (first | (with_reducible first | exact HB.out | apply yA_ | apply yN_ | apply yD_ | refine yS_ ?_ GE503.out) | exact HB.out)⟩⟩
    ·rw [if_neg c10] at H
     have c10b0 : decide (a2 < 0) = false := decide_eq_false c10
     clear c10
     (first | rw [c10b0] | (simp only [i64_w, i32_w]; rw [c10b0]) | skip)
     have H' := Aside0.mk H
     clear H
     have hcz13_0 : w5.cell? ⟨gb503, 0, none⟩ = some (.slice A0_0 l0_0.length c0_0) := (xC_ BK503.out 0).trans rfl
     have hcz13_1 : w5.cell? ⟨gb503, 1, none⟩ = some (.slice A0_1 l0_1.length c0_1) := (xC_ BK503.out 1).trans rfl
     have hfz13_0 := xF_ BK503.out 0
     have hfz13_1 := xF_ BK503.out 1
     go_wp2_with (first | ((with_reducible refine gate_callee (f := 9) rfl ?_); refine goesL_ (some 18) rfl rfl Try.func9 (by kernel_rfl) rfl #[.agg #[.slice A0_0 l0_0.length c0_0, .slice A0_1 l0_1.length c0_1]] rfl (by (try simp only [List.map_toArray, List.map_cons, List.map_nil]); first | done | rfl) ?_; (with_reducible refine (armadaref01_Small.calls k _ _ l0_0 _ _ l0_1 true _ ?side1 ?side2 ?side3 ?side4 A6.out).mono ?_); (case side1 => repeat (first | exact (Kd.C_below HR0_0.out HB.out) | (with_reducible refine Kd.C_alloc ?_ _) | (with_reducible refine Kd.C_drewN ?_ _) | (with_reducible refine Kd.C_drew ?_))); (case side2 => exact HC0_0.out); (case side3 => repeat (first | exact (Kd.C_below HR0_1.out HB.out) | (with_reducible refine Kd.C_alloc ?_ _) | (with_reducible refine Kd.C_drewN ?_ _) | (with_reducible refine Kd.C_drew ?_))); (case side4 => exact HC0_1.out); rintro e w14 ⟨rfl, hb⟩; refine ⟨_, rfl, ?_⟩; have hz_ := zq HB (by repeat (first | (with_reducible first | exact Below.refl _ _ | apply yA_ | apply yN_ | apply yD_) | exact Below.refl _ _)) hb; replace hb := below_step hz_ hb; replace BK503 := zB BK503 hb; replace HB := zH HB hb; clear hz_; (try clear hb)) | (go_at_call 25; (with_reducible refine (armadaref01_Few.calls k _ _ l1 true _ ?side1 ?side2 A8.out).mono ?_); (case side1 => repeat (first | exact (Kd.C_below HR1.out HB.out) | (with_reducible refine Kd.C_alloc ?_ _) | (with_reducible refine Kd.C_drewN ?_ _) | (with_reducible refine Kd.C_drew ?_))); (case side2 => exact HC1.out); rintro e w' ⟨rfl, ⟨nd, rfl⟩⟩))
     go_meet
     case rel => exact ⟨_, (decide (a2 > (l1.length : Int))), (by first | rfl | (simp; done) | (simp [*]; done)), H', ⟨by first | omega | exact Nat.le_refl _⟩, ⟨by (with_reducible repeat (first | apply xN_ | apply xD_ | apply xA_)); exact BK503.out⟩, ⟨by repeat (first | (with_reducible first | exact HB.out | apply yA_ | apply yN_ | apply yD_ | refine yS_ ?_ GE503.out) | exact HB.out)⟩⟩
   ·replace c9 := Bool.eq_false_iff.mpr c9
    subst c9
    have H1 : (armadalaw01_DiskParts.j0 k l1 a2 true l0_0 l0_1) = some true := by rw [if_neg (show ¬ (false = true) by decide)] at H; exact H
    clear H
    have H := H1
    clear H1
    have H' := Aside0.mk H
    clear H
    have hcz15_0 : w5.cell? ⟨gb503, 0, none⟩ = some (.slice A0_0 l0_0.length c0_0) := (xC_ BK503.out 0).trans rfl
    have hcz15_1 : w5.cell? ⟨gb503, 1, none⟩ = some (.slice A0_1 l0_1.length c0_1) := (xC_ BK503.out 1).trans rfl
    have hfz15_0 := xF_ BK503.out 0
    have hfz15_1 := xF_ BK503.out 1
    go_wp2_with (first | ((with_reducible refine gate_callee (f := 9) rfl ?_); refine goesL_ (some 18) rfl rfl Try.func9 (by kernel_rfl) rfl #[.agg #[.slice A0_0 l0_0.length c0_0, .slice A0_1 l0_1.length c0_1]] rfl (by (try simp only [List.map_toArray, List.map_cons, List.map_nil]); first | done | rfl) ?_; (with_reducible refine (armadaref01_Small.calls k _ _ l0_0 _ _ l0_1 true _ ?side1 ?side2 ?side3 ?side4 A6.out).mono ?_); (case side1 => repeat (first | exact (Kd.C_below HR0_0.out HB.out) | (with_reducible refine Kd.C_alloc ?_ _) | (with_reducible refine Kd.C_drewN ?_ _) | (with_reducible refine Kd.C_drew ?_))); (case side2 => exact HC0_0.out); (case side3 => repeat (first | exact (Kd.C_below HR0_1.out HB.out) | (with_reducible refine Kd.C_alloc ?_ _) | (with_reducible refine Kd.C_drewN ?_ _) | (with_reducible refine Kd.C_drew ?_))); (case side4 => exact HC0_1.out); rintro e w16 ⟨rfl, hb⟩; refine ⟨_, rfl, ?_⟩; have hz_ := zq HB (by repeat (first | (with_reducible first | exact Below.refl _ _ | apply yA_ | apply yN_ | apply yD_) | exact Below.refl _ _)) hb; replace hb := below_step hz_ hb; replace BK503 := zB BK503 hb; replace HB := zH HB hb; clear hz_; (try clear hb)) | (go_at_call 25; (with_reducible refine (armadaref01_Few.calls k _ _ l1 false _ ?side1 ?side2 A8.out).mono ?_); (case side1 => repeat (first | exact (Kd.C_below HR1.out HB.out) | (with_reducible refine Kd.C_alloc ?_ _) | (with_reducible refine Kd.C_drewN ?_ _) | (with_reducible refine Kd.C_drew ?_))); (case side2 => exact HC1.out); rintro e w' ⟨rfl, ⟨nd, rfl⟩⟩))
    go_meet
    case rel => exact ⟨_, (true), (by first | rfl | (simp; done) | (simp [*]; done)), H', ⟨by first | omega | exact Nat.le_refl _⟩, ⟨by (with_reducible repeat (first | apply xN_ | apply xD_ | apply xA_)); exact BK503.out⟩, ⟨by repeat (first | (with_reducible first | exact HB.out | apply yA_ | apply yN_ | apply yD_ | refine yS_ ?_ GE503.out) | exact HB.out)⟩⟩
  ·replace c7 := Bool.eq_false_iff.mpr c7
   subst c7
   have H1 : (armadalaw01_DiskParts.j0 k l1 a2 true l0_0 l0_1) = some true := by rw [if_neg (show ¬ (false = true) by decide)] at H; exact H
   clear H
   have H := H1
   clear H1
   have H' := Aside0.mk H
   clear H
   have hcz17_0 : w5.cell? ⟨gb503, 0, none⟩ = some (.slice A0_0 l0_0.length c0_0) := (xC_ BK503.out 0).trans rfl
   have hcz17_1 : w5.cell? ⟨gb503, 1, none⟩ = some (.slice A0_1 l0_1.length c0_1) := (xC_ BK503.out 1).trans rfl
   have hfz17_0 := xF_ BK503.out 0
   have hfz17_1 := xF_ BK503.out 1
   go_wp2_with (first | ((with_reducible refine gate_callee (f := 9) rfl ?_); refine goesL_ (some 18) rfl rfl Try.func9 (by kernel_rfl) rfl #[.agg #[.slice A0_0 l0_0.length c0_0, .slice A0_1 l0_1.length c0_1]] rfl (by (try simp only [List.map_toArray, List.map_cons, List.map_nil]); first | done | rfl) ?_; (with_reducible refine (armadaref01_Small.calls k _ _ l0_0 _ _ l0_1 false _ ?side1 ?side2 ?side3 ?side4 A6.out).mono ?_); (case side1 => repeat (first | exact (Kd.C_below HR0_0.out HB.out) | (with_reducible refine Kd.C_alloc ?_ _) | (with_reducible refine Kd.C_drewN ?_ _) | (with_reducible refine Kd.C_drew ?_))); (case side2 => exact HC0_0.out); (case side3 => repeat (first | exact (Kd.C_below HR0_1.out HB.out) | (with_reducible refine Kd.C_alloc ?_ _) | (with_reducible refine Kd.C_drewN ?_ _) | (with_reducible refine Kd.C_drew ?_))); (case side4 => exact HC0_1.out); rintro e w18 ⟨rfl, hb⟩; refine ⟨_, rfl, ?_⟩; have hz_ := zq HB (by repeat (first | (with_reducible first | exact Below.refl _ _ | apply yA_ | apply yN_ | apply yD_) | exact Below.refl _ _)) hb; replace hb := below_step hz_ hb; replace BK503 := zB BK503 hb; replace HB := zH HB hb; clear hz_; (try clear hb)))
   go_meet
   case rel => exact ⟨_, (true), (by first | rfl | (simp; done) | (simp [*]; done)), H', ⟨by first | omega | exact Nat.le_refl _⟩, ⟨by (with_reducible repeat (first | apply xN_ | apply xD_ | apply xA_)); exact BK503.out⟩, ⟨by repeat (first | (with_reducible first | exact HB.out | apply yA_ | apply yN_ | apply yD_ | refine yS_ ?_ GE503.out) | exact HB.out)⟩⟩
 case rest =>
  clear HC4
  (try clear c1); (try clear p2); (try clear c7); (try clear c9); (try clear c10); (try clear c10b0); (try clear hcz11_0); (try clear hcz11_1); (try clear hcz13_0)
  (try clear hcz13_1); (try clear hcz15_0); (try clear hcz15_1); (try clear hcz17_0); (try clear hcz17_1); (try clear hfz11_0); (try clear hfz11_1); (try clear hfz13_0)
  (try clear hfz13_1); (try clear hfz15_0); (try clear hfz15_1); (try clear hfz17_0); (try clear hfz17_1)
  obtain ⟨kq, x34_3, rfl, HA, HJ3, BK503, HB⟩ := hcut
  cases kq with
  | zero => exact absurd HA.out (by simp [armadalaw01_DiskParts.j0])
  | succ kj3 =>
   have H := HA.out
   clear HA
   simp only [armadalaw01_DiskParts.j0] at H
   by_cases c19 : x34_3 = true
   ·subst c19
    have H1 : ((armadalaw01_live.f kj3).bind fun t506 => (some t506)) = some true := by rw [if_pos rfl] at H; exact H
    clear H
    have H := H1
    clear H1
    replace H := Option.bind_eq_some_iff.mp H
    obtain ⟨t506, A200, H⟩ := H
    replace H : (some t506) = some true := H
    have A20 := Aside0.mk A200
    clear A200
    obtain rfl := Option.some.inj H
    go_wp2_with (first | ((with_reducible refine gate_callee (f := 10) rfl ?_); refine goesL_ (some 35) rfl rfl Try.func10 (by kernel_rfl) rfl #[] rfl (by (try simp only [List.map_toArray, List.map_cons, List.map_nil]); first | done | rfl) ?_; (with_reducible refine (armadalaw01_live.calls kj3  true _ A20.out).mono ?_); rintro e w21 ⟨rfl, hb⟩; refine ⟨_, rfl, ?_⟩; have hz_ := zq HB (by repeat (first | (with_reducible first | exact Below.refl _ _ | apply yA_ | apply yN_ | apply yD_) | exact Below.refl _ _)) hb; replace hb := below_step hz_ hb; replace BK503 := zB BK503 hb; replace HB := zH HB hb; clear hz_; (try clear hb)))
    go_ret
    exact ⟨by first | rfl | (simp [errW_none, errW_some] <;> rfl) | (simp [*, errW_none, errW_some] <;> rfl), by repeat (first | (with_reducible first | exact HB.out | apply yA_ | apply yN_ | apply yD_ | refine yS_ ?_ GE503.out) | exact HB.out)⟩
   ·replace c19 := Bool.eq_false_iff.mpr c19
    subst c19
    have H1 : ((disk_Run.f kj3 l0_0 l0_1 l1 (l1.length : Int)).bind fun bt507 => ((disk_Run.f kj3 l0_0 l0_1 l1 a2).bind fun bt515 => (if 0 ≤ a2 then (if a2 ≤ (l1.length : Int) then ((disk_Run.f kj3 bt515.1 bt515.2.1 (l1.drop (a2 : Int).toNat) (wrap64 ((l1.length : Int) - a2))).bind fun bt527 => (if bt507.2.2 = 0 then ((disk_Flush.f bt507.1 bt507.2.1).bind fun bt539 => ((disk_Flush.f bt539.1 bt539.2.1).bind fun bt547 => (if bt515.2.2 = 0 then (if bt527.2.2 = 0 then ((armadaref01_Same.f kj3 bt507.1 bt507.2.1 bt527.1 bt527.2.1).bind fun t555 => (if t555 = true then ((armadaref01_Same.f kj3 bt539.1 bt539.2.1 bt547.1 bt547.2.1).bind fun t556 => (if t556 = true then ((armadalaw01_live.f kj3).bind fun t557 => (some t557)) else (some false))) else (some false))) else (some false)) else (some false)))) else (if bt515.2.2 = 0 then (if bt527.2.2 = 0 then (some false) else ((armadaref01_Same.f kj3 bt507.1 bt507.2.1 l0_0 l0_1).bind fun t535 => (if t535 = true then ((armadalaw01_live.f kj3).bind fun t536 => (some t536)) else (some false)))) else ((armadaref01_Same.f kj3 bt507.1 bt507.2.1 l0_0 l0_1).bind fun t537 => (if t537 = true then ((armadalaw01_live.f kj3).bind fun t538 => (some t538)) else (some false)))))) else (none)) else (none)))) = some true := by rw [if_neg (show ¬ (false = true) by decide)] at H; exact H
    clear H
    have H := H1
    clear H1
    replace H := Option.bind_eq_some_iff.mp H
    obtain ⟨⟨t507, t510, t513⟩, A220, H⟩ := H
    replace H : ((disk_Run.f kj3 l0_0 l0_1 l1 a2).bind fun bt515 => (if 0 ≤ a2 then (if a2 ≤ (l1.length : Int) then ((disk_Run.f kj3 bt515.1 bt515.2.1 (l1.drop (a2 : Int).toNat) (wrap64 ((l1.length : Int) - a2))).bind fun bt527 => (if t513 = 0 then ((disk_Flush.f t507 t510).bind fun bt539 => ((disk_Flush.f bt539.1 bt539.2.1).bind fun bt547 => (if bt515.2.2 = 0 then (if bt527.2.2 = 0 then ((armadaref01_Same.f kj3 t507 t510 bt527.1 bt527.2.1).bind fun t555 => (if t555 = true then ((armadaref01_Same.f kj3 bt539.1 bt539.2.1 bt547.1 bt547.2.1).bind fun t556 => (if t556 = true then ((armadalaw01_live.f kj3).bind fun t557 => (some t557)) else (some false))) else (some false))) else (some false)) else (some false)))) else (if bt515.2.2 = 0 then (if bt527.2.2 = 0 then (some false) else ((armadaref01_Same.f kj3 t507 t510 l0_0 l0_1).bind fun t535 => (if t535 = true then ((armadalaw01_live.f kj3).bind fun t536 => (some t536)) else (some false)))) else ((armadaref01_Same.f kj3 t507 t510 l0_0 l0_1).bind fun t537 => (if t537 = true then ((armadalaw01_live.f kj3).bind fun t538 => (some t538)) else (some false)))))) else (none)) else (none))) = some true := H
    have A22 := Aside0.mk A220
    clear A220
    replace H := Option.bind_eq_some_iff.mp H
    obtain ⟨⟨t515, t518, t521⟩, A230, H⟩ := H
    replace H : (if 0 ≤ a2 then (if a2 ≤ (l1.length : Int) then ((disk_Run.f kj3 t515 t518 (l1.drop (a2 : Int).toNat) (wrap64 ((l1.length : Int) - a2))).bind fun bt527 => (if t513 = 0 then ((disk_Flush.f t507 t510).bind fun bt539 => ((disk_Flush.f bt539.1 bt539.2.1).bind fun bt547 => (if t521 = 0 then (if bt527.2.2 = 0 then ((armadaref01_Same.f kj3 t507 t510 bt527.1 bt527.2.1).bind fun t555 => (if t555 = true then ((armadaref01_Same.f kj3 bt539.1 bt539.2.1 bt547.1 bt547.2.1).bind fun t556 => (if t556 = true then ((armadalaw01_live.f kj3).bind fun t557 => (some t557)) else (some false))) else (some false))) else (some false)) else (some false)))) else (if t521 = 0 then (if bt527.2.2 = 0 then (some false) else ((armadaref01_Same.f kj3 t507 t510 l0_0 l0_1).bind fun t535 => (if t535 = true then ((armadalaw01_live.f kj3).bind fun t536 => (some t536)) else (some false)))) else ((armadaref01_Same.f kj3 t507 t510 l0_0 l0_1).bind fun t537 => (if t537 = true then ((armadalaw01_live.f kj3).bind fun t538 => (some t538)) else (some false)))))) else (none)) else (none)) = some true := H
    have A23 := Aside0.mk A230
    clear A230
    by_cases c24 : 0 ≤ a2
    ·rw [if_pos c24] at H
     have c24b0 := eq_true c24
     have c24b1 : decide (0 ≤ a2) = true := decide_eq_true c24
     clear c24
     by_cases c25 : a2 ≤ (l1.length : Int)
     ·rw [if_pos c25] at H
      have c25b0 := eq_true c25
      have c25b1 : decide (a2 ≤ (l1.length : Int)) = true := decide_eq_true c25
      clear c25
      obtain ⟨y523, hy523⟩ : ∃ y_ : List (S49), y_ = (l1.drop (a2 : Int).toNat) := ⟨_, rfl⟩
      replace H : ((disk_Run.f kj3 t515 t518 y523 (wrap64 ((l1.length : Int) - a2))).bind fun bt527 => (if t513 = 0 then ((disk_Flush.f t507 t510).bind fun bt539 => ((disk_Flush.f bt539.1 bt539.2.1).bind fun bt547 => (if t521 = 0 then (if bt527.2.2 = 0 then ((armadaref01_Same.f kj3 t507 t510 bt527.1 bt527.2.1).bind fun t555 => (if t555 = true then ((armadaref01_Same.f kj3 bt539.1 bt539.2.1 bt547.1 bt547.2.1).bind fun t556 => (if t556 = true then ((armadalaw01_live.f kj3).bind fun t557 => (some t557)) else (some false))) else (some false))) else (some false)) else (some false)))) else (if t521 = 0 then (if bt527.2.2 = 0 then (some false) else ((armadaref01_Same.f kj3 t507 t510 l0_0 l0_1).bind fun t535 => (if t535 = true then ((armadalaw01_live.f kj3).bind fun t536 => (some t536)) else (some false)))) else ((armadaref01_Same.f kj3 t507 t510 l0_0 l0_1).bind fun t537 => (if t537 = true then ((armadalaw01_live.f kj3).bind fun t538 => (some t538)) else (some false)))))) = some true := by first | (rw [hy523]; with_reducible exact H) | (have H2_ := (Option.bind_some _ _).symm.trans H; rw [hy523]; with_reducible exact H2_) | (have H2_ := (Option.bind_some _ _).symm.trans H; with_reducible exact H2_) | with_reducible exact H | (rw [hy523]; exact H) | exact H
      have Ny523 := Aside0.mk hy523
      clear hy523
      replace H := Option.bind_eq_some_iff.mp H
      obtain ⟨⟨t527, t530, t533⟩, A260, H⟩ := H
      replace H : (if t513 = 0 then ((disk_Flush.f t507 t510).bind fun bt539 => ((disk_Flush.f bt539.1 bt539.2.1).bind fun bt547 => (if t521 = 0 then (if t533 = 0 then ((armadaref01_Same.f kj3 t507 t510 t527 t530).bind fun t555 => (if t555 = true then ((armadaref01_Same.f kj3 bt539.1 bt539.2.1 bt547.1 bt547.2.1).bind fun t556 => (if t556 = true then ((armadalaw01_live.f kj3).bind fun t557 => (some t557)) else (some false))) else (some false))) else (some false)) else (some false)))) else (if t521 = 0 then (if t533 = 0 then (some false) else ((armadaref01_Same.f kj3 t507 t510 l0_0 l0_1).bind fun t535 => (if t535 = true then ((armadalaw01_live.f kj3).bind fun t536 => (some t536)) else (some false)))) else ((armadaref01_Same.f kj3 t507 t510 l0_0 l0_1).bind fun t537 => (if t537 = true then ((armadalaw01_live.f kj3).bind fun t538 => (some t538)) else (some false))))) = some true := H
      have A26 := Aside0.mk A260
      clear A260
      by_cases c27 : t513 = 0
      ·rw [if_pos c27] at H
       have c27b0 : (t513 == 0) = true := beq_iff_eq.mpr c27
       have c27b1 : (t513 != 0) = false := bne_eq_false_iff_eq.mpr c27
       clear c27
       replace H := Option.bind_eq_some_iff.mp H
       obtain ⟨⟨t539, t542, t545⟩, A280, H⟩ := H
       replace H : ((disk_Flush.f t539 t542).bind fun bt547 => (if t521 = 0 then (if t533 = 0 then ((armadaref01_Same.f kj3 t507 t510 t527 t530).bind fun t555 => (if t555 = true then ((armadaref01_Same.f kj3 t539 t542 bt547.1 bt547.2.1).bind fun t556 => (if t556 = true then ((armadalaw01_live.f kj3).bind fun t557 => (some t557)) else (some false))) else (some false))) else (some false)) else (some false))) = some true := H
       have A28 := Aside0.mk A280
       clear A280
       replace H := Option.bind_eq_some_iff.mp H
       obtain ⟨⟨t547, t550, t553⟩, A290, H⟩ := H
       replace H : (if t521 = 0 then (if t533 = 0 then ((armadaref01_Same.f kj3 t507 t510 t527 t530).bind fun t555 => (if t555 = true then ((armadaref01_Same.f kj3 t539 t542 t547 t550).bind fun t556 => (if t556 = true then ((armadalaw01_live.f kj3).bind fun t557 => (some t557)) else (some false))) else (some false))) else (some false)) else (some false)) = some true := H
       have A29 := Aside0.mk A290
       clear A290
       by_cases c30 : t521 = 0
       ·rw [if_pos c30] at H
        have c30b0 : (t521 == 0) = true := beq_iff_eq.mpr c30
        have c30b1 : (t521 != 0) = false := bne_eq_false_iff_eq.mpr c30
        clear c30
        by_cases c31 : t533 = 0
        ·rw [if_pos c31] at H
         have c31b0 : (t533 == 0) = true := beq_iff_eq.mpr c31
         have c31b1 : (t533 != 0) = false := bne_eq_false_iff_eq.mpr c31
         clear c31
         replace H := Option.bind_eq_some_iff.mp H
         obtain ⟨t555, A320, H⟩ := H
         replace H : (if t555 = true then ((armadaref01_Same.f kj3 t539 t542 t547 t550).bind fun t556 => (if t556 = true then ((armadalaw01_live.f kj3).bind fun t557 => (some t557)) else (some false))) else (some false)) = some true := H
         have A32 := Aside0.mk A320
         clear A320
         by_cases c33 : t555 = true
         ·subst c33
          have H1 : ((armadaref01_Same.f kj3 t539 t542 t547 t550).bind fun t556 => (if t556 = true then ((armadalaw01_live.f kj3).bind fun t557 => (some t557)) else (some false))) = some true := by rw [if_pos rfl] at H; exact H
          clear H
          have H := H1
          clear H1
          replace H := Option.bind_eq_some_iff.mp H
          obtain ⟨t556, A340, H⟩ := H
          replace H : (if t556 = true then ((armadalaw01_live.f kj3).bind fun t557 => (some t557)) else (some false)) = some true := H
          have A34 := Aside0.mk A340
          clear A340
          by_cases c35 : t556 = true
          ·subst c35
           have H1 : ((armadalaw01_live.f kj3).bind fun t557 => (some t557)) = some true := by rw [if_pos rfl] at H; exact H
           clear H
           have H := H1
           clear H1
           replace H := Option.bind_eq_some_iff.mp H
           obtain ⟨t557, A360, H⟩ := H
           replace H : (some t557) = some true := H
           have A36 := Aside0.mk A360
           clear A360
           obtain rfl := Option.some.inj H
           have hcz37_0 : wc.cell? ⟨gb503, 0, none⟩ = some (.slice A0_0 l0_0.length c0_0) := (xC_ BK503.out 0).trans rfl
           have hcz37_1 : wc.cell? ⟨gb503, 1, none⟩ = some (.slice A0_1 l0_1.length c0_1) := (xC_ BK503.out 1).trans rfl
           have hfz37_0 := xF_ BK503.out 0
           have hfz37_1 := xF_ BK503.out 1
           try go_wp2_with (first | ((with_reducible refine gate_callee (f := 26) rfl ?_); refine goesL_ (some 41) rfl rfl Try.func26 (by kernel_rfl) rfl #[.agg #[.slice A0_0 l0_0.length c0_0, .slice A0_1 l0_1.length c0_1], .slice A1 l1.length c1, .int .i64 (l1.length : Int)] rfl (by (try simp only [List.map_toArray, List.map_cons, List.map_nil]); first | done | rfl) ?_; (with_reducible refine (disk_Run.calls kj3 (fun k_ => k_ < w.heap.size) _ _ l0_0 (fun k_ => k_ < w.heap.size) _ _ l0_1 _ _ l1 (l1.length : Int) t507 t510 t513 _ ?side1 ?side2 ?side3 ?side4 A22.out).mono ?_); (case side1 => exact Kd.V_mk HC0_0.out (Kd.F_below (Kd.C_F Kd.heap_string HR0_0.out) (by repeat (first | (with_reducible first | exact HB.out | apply yA_ | apply yN_ | apply yD_ | refine yS_ ?_ GE503.out) | exact HB.out)))); (case side2 => exact Kd.V_mk HC0_1.out (Kd.F_below (Kd.C_F k27_heap HR0_1.out) (by repeat (first | (with_reducible first | exact HB.out | apply yA_ | apply yN_ | apply yD_ | refine yS_ ?_ GE503.out) | exact HB.out)))); (case side3 => repeat (first | exact (Kd.C_below HR1.out HB.out) | (with_reducible refine Kd.C_alloc ?_ _) | (with_reducible refine Kd.C_drewN ?_ _) | (with_reducible refine Kd.C_drew ?_))); (case side4 => exact HC1.out); rintro e w38 ⟨v508, v511, rfl, ho0, ho1, hb⟩; refine ⟨_, rfl, ?_⟩; have hz_ := zq HB (by repeat (first | (with_reducible first | exact Below.refl _ _ | apply yA_ | apply yN_ | apply yD_) | exact Below.refl _ _)) hb; replace hb := below_step hz_ hb; have HO509 := Aside0.mk (Kd.V_lower (Kd.V_mono (ok' := fun k_ => k_ ≠ gb503) ho0 (fun k_ hk_ => Or.elim hk_ (fun hs_ => Or.elim hs_ (zg GW503) (zg GW503)) (zf BK503 hz_ k_))) (zs HB hz_)); have HO512 := Aside0.mk (Kd.V_lower (Kd.V_mono (ok' := fun k_ => k_ ≠ gb503) ho1 (fun k_ hk_ => Or.elim hk_ (fun hs_ => Or.elim hs_ (zg GW503) (zg GW503)) (zf BK503 hz_ k_))) (zs HB hz_)); replace BK503 := zB BK503 hb; replace HB := zH HB hb; clear hz_; (try clear hb); (try clear ho0); (try clear ho1)) | ((with_reducible refine gate_dst (N := 7) rfl ?_); (try (refine gate_guard (by rfl) ?_; dsimp only)); refine box_event ?hg (N := 7) ?hd (cs := #[.slice none 0 0, .slice none 0 0]) (t := 25) ?hr ?_; (case hd => rfl); (case hg => rfl); (case hr => first | (go_simp; done) | (go_simp; rfl)); intro gb514 hg w39 hbox hb; have hz_ := zq HB (by repeat (first | (with_reducible first | exact Below.refl _ _ | apply yA_ | apply yN_ | apply yD_) | exact Below.refl _ _)) hb; replace hb := below_step hz_ hb; replace HO509 := zE HO509 hz_ hg hb; replace HO512 := zE HO512 hz_ hg hb; have BK514 := Aside0.mk hbox; have GW514 := zG HB hz_ hg; have GE514 := zG HB hz_ hg; have NB503_514 := zN BK503 hz_ hg; have NB514_503 := zM BK503 hz_ hg; replace BK503 := zB BK503 hb; replace HB := zH HB hb; clear hz_; clear hb hbox hg; obtain ⟨Ao40, co40, eo40⟩ := Kd.V_slice HO509.out; subst eo40; have hnb41 := NB514_503.out; have hnc41 := NB503_514.out; have hcz42_0 : w39.cell? ⟨gb514, 0, none⟩ = some (.slice none 0 0) := (xC_ BK514.out 0).trans rfl; have hcz42_1 : w39.cell? ⟨gb514, 1, none⟩ = some (.slice none 0 0) := (xC_ BK514.out 1).trans rfl; have hfz42_0 := xF_ BK514.out 0; have hfz42_1 := xF_ BK514.out 1; obtain ⟨Ao43, co43, eo43⟩ := Kd.V_slice HO512.out; subst eo43) | ((with_reducible refine gate_store (t := 25) (p := 7) rfl ?_); refine store_event (t := 25) (p := 7) (v := ?vo_w44) (w1 := ((w39.setCell ⟨gb514, 0, none⟩ (.slice Ao40 t507.length co40)).setCell ⟨gb514, 1, none⟩ (.slice Ao43 t510.length co43))) ?hg ?ho ?hn ?hr ?_; (case ho => rfl); (case hg => rfl); (case hn => rfl); (case hr => first | (go_simp; done) | (go_simp; rfl)); intro w44 hw; have n0_ : Aside0 (Kd.V Kd.string 9 w44 w.heap.size (fun k_ => k_ ≠ gb503 ∧ k_ ≠ gb514) (.slice Ao40 t507.length co40) t507) := ⟨(by rw [hw]; exact (by (with_reducible repeat (first | apply Kd.V_alloc | apply Kd.V_drewN | apply Kd.V_drew)); exact Kd.V_mono (Kd.V_far (p := ⟨gb514, 1, none⟩) (Kd.V_far (p := ⟨gb514, 0, none⟩) (Kd.V_mono HO509.out (fun k_ hk => (⟨hk, hk.2⟩ : _ ∧ k_ ≠ gb514))) (fun _ hk => hk.2) (.slice Ao40 t507.length co40)) (fun _ hk => hk.2) (.slice Ao43 t510.length co43)) (fun _ hk => ⟨hk.1.1, hk.1.2⟩)))⟩; have n1_ : Aside0 (Kd.V k27 27 w44 w.heap.size (fun k_ => k_ ≠ gb503 ∧ k_ ≠ gb514) (.slice Ao43 t510.length co43) t510) := ⟨(by rw [hw]; exact (by (with_reducible repeat (first | apply Kd.V_alloc | apply Kd.V_drewN | apply Kd.V_drew)); exact Kd.V_mono (Kd.V_far (p := ⟨gb514, 1, none⟩) (Kd.V_far (p := ⟨gb514, 0, none⟩) (Kd.V_mono HO512.out (fun k_ hk => (⟨hk, hk.2⟩ : _ ∧ k_ ≠ gb514))) (fun _ hk => hk.2) (.slice Ao40 t507.length co40)) (fun _ hk => hk.2) (.slice Ao43 t510.length co43)) (fun _ hk => ⟨hk.1.1, hk.1.2⟩)))⟩; have n2_ : Aside0 (w44.heap[gb503]? = some (.cells #[.slice A0_0 l0_0.length c0_0, .slice A0_1 l0_1.length c0_1] 25 (0, 0))) := ⟨(by rw [hw]; exact (by (with_reducible repeat (first | apply xN_ | apply xD_ | apply xA_)); refine xR_ ?_ NB503_514.out _; refine xR_ ?_ NB503_514.out _; (with_reducible repeat (first | apply xN_ | apply xD_ | apply xA_)); exact BK503.out))⟩; have n3_ : Aside0 (w44.heap[gb514]? = some (.cells #[.slice Ao40 t507.length co40, .slice Ao43 t510.length co43] 25 (0, 0))) := ⟨(by rw [hw]; exact (by (with_reducible repeat (first | apply xN_ | apply xD_ | apply xA_)); refine blk_put (cs := #[.slice Ao40 t507.length co40, .slice none 0 0]) ?_ 1 _ rfl; refine blk_put (cs := #[.slice none 0 0, .slice none 0 0]) ?_ 0 _ rfl; (with_reducible repeat (first | apply xN_ | apply xD_ | apply xA_)); exact BK514.out))⟩; have n4_ : Aside0 (Below w.heap.size w w44) := ⟨(by rw [hw]; exact (by repeat (first | (with_reducible first | exact HB.out | apply yA_ | apply yN_ | apply yD_ | refine yS_ ?_ GE503.out | refine yS_ ?_ GE514.out) | exact HB.out)))⟩; clear hw; clear HO509; clear HO512; clear BK503; clear BK514; clear HB; have HO509 := n0_; have HO512 := n1_; have BK503 := n2_; have BK514 := n3_; have HB := n4_; clear n0_ n1_ n2_ n3_ n4_; have hcz45_0 : w44.cell? ⟨gb503, 0, none⟩ = some (.slice A0_0 l0_0.length c0_0) := (xC_ BK503.out 0).trans rfl; have hcz45_1 : w44.cell? ⟨gb503, 1, none⟩ = some (.slice A0_1 l0_1.length c0_1) := (xC_ BK503.out 1).trans rfl; have hfz45_0 := xF_ BK503.out 0; have hfz45_1 := xF_ BK503.out 1) | ((with_reducible refine gate_callee (f := 26) rfl ?_); refine goesL_ (some 48) rfl rfl Try.func26 (by kernel_rfl) rfl #[.agg #[.slice A0_0 l0_0.length c0_0, .slice A0_1 l0_1.length c0_1], .slice A1 l1.length c1, .int .i64 a2] rfl (by (try simp only [List.map_toArray, List.map_cons, List.map_nil]); first | done | rfl) ?_; (with_reducible refine (disk_Run.calls kj3 (fun k_ => k_ < w.heap.size) _ _ l0_0 (fun k_ => k_ < w.heap.size) _ _ l0_1 _ _ l1 a2 t515 t518 t521 _ ?side1 ?side2 ?side3 ?side4 A23.out).mono ?_); (case side1 => exact Kd.V_mk HC0_0.out (Kd.F_below (Kd.C_F Kd.heap_string HR0_0.out) (by repeat (first | (with_reducible first | exact HB.out | apply yA_ | apply yN_ | apply yD_ | refine yS_ ?_ GE503.out | refine yS_ ?_ GE514.out) | exact HB.out)))); (case side2 => exact Kd.V_mk HC0_1.out (Kd.F_below (Kd.C_F k27_heap HR0_1.out) (by repeat (first | (with_reducible first | exact HB.out | apply yA_ | apply yN_ | apply yD_ | refine yS_ ?_ GE503.out | refine yS_ ?_ GE514.out) | exact HB.out)))); (case side3 => repeat (first | exact (Kd.C_below HR1.out HB.out) | (with_reducible refine Kd.C_alloc ?_ _) | (with_reducible refine Kd.C_drewN ?_ _) | (with_reducible refine Kd.C_drew ?_))); (case side4 => exact HC1.out); rintro e w46 ⟨v516, v519, rfl, ho0, ho1, hb⟩; refine ⟨_, rfl, ?_⟩; have hz_ := zq HB (by repeat (first | (with_reducible first | exact Below.refl _ _ | apply yA_ | apply yN_ | apply yD_) | exact Below.refl _ _)) hb; replace hb := below_step hz_ hb; replace HO509 := zV HO509 hb; replace HO512 := zV HO512 hb; have HO517 := Aside0.mk (Kd.V_lower (Kd.V_mono (ok' := fun k_ => k_ ≠ gb503 ∧ k_ ≠ gb514) ho0 (fun k_ hk_ => ⟨Or.elim hk_ (fun hs_ => Or.elim hs_ (zg GW503) (zg GW503)) (zf BK503 hz_ k_), Or.elim hk_ (fun hs_ => Or.elim hs_ (zg GW514) (zg GW514)) (zf BK514 hz_ k_)⟩)) (zs HB hz_)); have HO520 := Aside0.mk (Kd.V_lower (Kd.V_mono (ok' := fun k_ => k_ ≠ gb503 ∧ k_ ≠ gb514) ho1 (fun k_ hk_ => ⟨Or.elim hk_ (fun hs_ => Or.elim hs_ (zg GW503) (zg GW503)) (zf BK503 hz_ k_), Or.elim hk_ (fun hs_ => Or.elim hs_ (zg GW514) (zg GW514)) (zf BK514 hz_ k_)⟩)) (zs HB hz_)); replace BK503 := zB BK503 hb; replace BK514 := zB BK514 hb; replace HB := zH HB hb; clear hz_; (try clear hb); (try clear ho0); (try clear ho1)) | ((with_reducible refine gate_dst (N := 9) rfl ?_); (try (refine gate_guard (by rfl) ?_; dsimp only)); refine box_event ?hg (N := 9) ?hd (cs := #[.slice none 0 0, .slice none 0 0]) (t := 25) ?hr ?_; (case hd => rfl); (case hg => rfl); (case hr => first | (go_simp; done) | (go_simp; rfl)); intro gb522 hg w47 hbox hb; have hz_ := zq HB (by repeat (first | (with_reducible first | exact Below.refl _ _ | apply yA_ | apply yN_ | apply yD_) | exact Below.refl _ _)) hb; replace hb := below_step hz_ hb; replace HO509 := zE HO509 hz_ hg hb; replace HO512 := zE HO512 hz_ hg hb; replace HO517 := zE HO517 hz_ hg hb; replace HO520 := zE HO520 hz_ hg hb; have BK522 := Aside0.mk hbox; have GW522 := zG HB hz_ hg; have GE522 := zG HB hz_ hg; have NB503_522 := zN BK503 hz_ hg; have NB522_503 := zM BK503 hz_ hg; have NB514_522 := zN BK514 hz_ hg; have NB522_514 := zM BK514 hz_ hg; replace BK503 := zB BK503 hb; replace BK514 := zB BK514 hb; replace HB := zH HB hb; clear hz_; clear hb hbox hg; obtain ⟨Ao48, co48, eo48⟩ := Kd.V_slice HO517.out; subst eo48; have hnb49 := NB522_503.out; have hnc49 := NB503_522.out; have hnb50 := NB522_514.out; have hnc50 := NB514_522.out; have hcz51_0 : w47.cell? ⟨gb522, 0, none⟩ = some (.slice none 0 0) := (xC_ BK522.out 0).trans rfl; have hcz51_1 : w47.cell? ⟨gb522, 1, none⟩ = some (.slice none 0 0) := (xC_ BK522.out 1).trans rfl; have hfz51_0 := xF_ BK522.out 0; have hfz51_1 := xF_ BK522.out 1; obtain ⟨Ao52, co52, eo52⟩ := Kd.V_slice HO520.out; subst eo52))
           have n0_ : Aside0 (Kd.V Kd.string 9 ((w47.setCell ⟨gb522, 0, none⟩ (.slice Ao48 t515.length co48)).setCell ⟨gb522, 1, none⟩ (.slice Ao52 t518.length co52)) w.heap.size (fun k_ => k_ ≠ gb503 ∧ k_ ≠ gb514 ∧ k_ ≠ gb522) (.slice Ao40 t507.length co40) t507) := ⟨by (with_reducible repeat (first | apply Kd.V_alloc | apply Kd.V_drewN | apply Kd.V_drew)); exact Kd.V_mono (Kd.V_far (p := ⟨gb522, 1, none⟩) (Kd.V_far (p := ⟨gb522, 0, none⟩) (Kd.V_mono HO509.out (fun k_ hk => (⟨hk, hk.2⟩ : _ ∧ k_ ≠ gb522))) (fun _ hk => hk.2) (.slice Ao48 t515.length co48)) (fun _ hk => hk.2) (.slice Ao52 t518.length co52)) (fun _ hk => ⟨hk.1.1.1, ⟨hk.1.1.2, hk.1.2⟩⟩)⟩
           have n1_ : Aside0 (Kd.V k27 27 ((w47.setCell ⟨gb522, 0, none⟩ (.slice Ao48 t515.length co48)).setCell ⟨gb522, 1, none⟩ (.slice Ao52 t518.length co52)) w.heap.size (fun k_ => k_ ≠ gb503 ∧ k_ ≠ gb514 ∧ k_ ≠ gb522) (.slice Ao43 t510.length co43) t510) := ⟨by (with_reducible repeat (first | apply Kd.V_alloc | apply Kd.V_drewN | apply Kd.V_drew)); exact Kd.V_mono (Kd.V_far (p := ⟨gb522, 1, none⟩) (Kd.V_far (p := ⟨gb522, 0, none⟩) (Kd.V_mono HO512.out (fun k_ hk => (⟨hk, hk.2⟩ : _ ∧ k_ ≠ gb522))) (fun _ hk => hk.2) (.slice Ao48 t515.length co48)) (fun _ hk => hk.2) (.slice Ao52 t518.length co52)) (fun _ hk => ⟨hk.1.1.1, ⟨hk.1.1.2, hk.1.2⟩⟩)⟩
           have n2_ : Aside0 (Kd.V Kd.string 9 ((w47.setCell ⟨gb522, 0, none⟩ (.slice Ao48 t515.length co48)).setCell ⟨gb522, 1, none⟩ (.slice Ao52 t518.length co52)) w.heap.size (fun k_ => k_ ≠ gb503 ∧ k_ ≠ gb514 ∧ k_ ≠ gb522) (.slice Ao48 t515.length co48) t515) := ⟨by (with_reducible repeat (first | apply Kd.V_alloc | apply Kd.V_drewN | apply Kd.V_drew)); exact Kd.V_mono (Kd.V_far (p := ⟨gb522, 1, none⟩) (Kd.V_far (p := ⟨gb522, 0, none⟩) (Kd.V_mono HO517.out (fun k_ hk => (⟨hk, hk.2⟩ : _ ∧ k_ ≠ gb522))) (fun _ hk => hk.2) (.slice Ao48 t515.length co48)) (fun _ hk => hk.2) (.slice Ao52 t518.length co52)) (fun _ hk => ⟨hk.1.1.1, ⟨hk.1.1.2, hk.1.2⟩⟩)⟩
           have n3_ : Aside0 (Kd.V k27 27 ((w47.setCell ⟨gb522, 0, none⟩ (.slice Ao48 t515.length co48)).setCell ⟨gb522, 1, none⟩ (.slice Ao52 t518.length co52)) w.heap.size (fun k_ => k_ ≠ gb503 ∧ k_ ≠ gb514 ∧ k_ ≠ gb522) (.slice Ao52 t518.length co52) t518) := ⟨by (with_reducible repeat (first | apply Kd.V_alloc | apply Kd.V_drewN | apply Kd.V_drew)); exact Kd.V_mono (Kd.V_far (p := ⟨gb522, 1, none⟩) (Kd.V_far (p := ⟨gb522, 0, none⟩) (Kd.V_mono HO520.out (fun k_ hk => (⟨hk, hk.2⟩ : _ ∧ k_ ≠ gb522))) (fun _ hk => hk.2) (.slice Ao48 t515.length co48)) (fun _ hk => hk.2) (.slice Ao52 t518.length co52)) (fun _ hk => ⟨hk.1.1.1, ⟨hk.1.1.2, hk.1.2⟩⟩)⟩
           have n4_ : Aside0 (((w47.setCell ⟨gb522, 0, none⟩ (.slice Ao48 t515.length co48)).setCell ⟨gb522, 1, none⟩ (.slice Ao52 t518.length co52)).heap[gb503]? = some (.cells #[.slice A0_0 l0_0.length c0_0, .slice A0_1 l0_1.length c0_1] 25 (0, 0))) := ⟨by (with_reducible repeat (first | apply xN_ | apply xD_ | apply xA_)); refine xR_ ?_ NB503_522.out _; refine xR_ ?_ NB503_522.out _; (with_reducible repeat (first | apply xN_ | apply xD_ | apply xA_)); exact BK503.out⟩
           have n5_ : Aside0 (((w47.setCell ⟨gb522, 0, none⟩ (.slice Ao48 t515.length co48)).setCell ⟨gb522, 1, none⟩ (.slice Ao52 t518.length co52)).heap[gb514]? = some (.cells #[.slice Ao40 t507.length co40, .slice Ao43 t510.length co43] 25 (0, 0))) := ⟨by (with_reducible repeat (first | apply xN_ | apply xD_ | apply xA_)); refine xR_ ?_ NB514_522.out _; refine xR_ ?_ NB514_522.out _; (with_reducible repeat (first | apply xN_ | apply xD_ | apply xA_)); exact BK514.out⟩
           have n6_ : Aside0 (((w47.setCell ⟨gb522, 0, none⟩ (.slice Ao48 t515.length co48)).setCell ⟨gb522, 1, none⟩ (.slice Ao52 t518.length co52)).heap[gb522]? = some (.cells #[.slice Ao48 t515.length co48, .slice Ao52 t518.length co52] 25 (0, 0))) := ⟨by (with_reducible repeat (first | apply xN_ | apply xD_ | apply xA_)); refine blk_put (cs := #[.slice Ao48 t515.length co48, .slice none 0 0]) ?_ 1 _ rfl; refine blk_put (cs := #[.slice none 0 0, .slice none 0 0]) ?_ 0 _ rfl; (with_reducible repeat (first | apply xN_ | apply xD_ | apply xA_)); exact BK522.out⟩
           have n7_ : Aside0 (Below w.heap.size w ((w47.setCell ⟨gb522, 0, none⟩ (.slice Ao48 t515.length co48)).setCell ⟨gb522, 1, none⟩ (.slice Ao52 t518.length co52))) := ⟨by repeat (first | (with_reducible first | exact HB.out | apply yA_ | apply yN_ | apply yD_ | refine yS_ ?_ GE503.out | refine yS_ ?_ GE514.out | refine yS_ ?_ GE522.out) | exact HB.out)⟩
           (try clear HO509)
           (try clear HO512)
           (try clear HO517)
           (try clear HO520)
           (try clear BK503)
           (try clear BK514)
           (try clear BK522)
           (try clear HB)
           generalize ((w47.setCell ⟨gb522, 0, none⟩ (.slice Ao48 t515.length co48)).setCell ⟨gb522, 1, none⟩ (.slice Ao52 t518.length co52)) = w53 at n0_ n1_ n2_ n3_ n4_ n5_ n6_ n7_ ⊢
           have HO509 := n0_
           have HO512 := n1_
           have HO517 := n2_
           have HO520 := n3_
           have BK503 := n4_
           have BK514 := n5_
           have BK522 := n6_
           have HB := n7_
           clear n0_ n1_ n2_ n3_ n4_ n5_ n6_ n7_
           replace HO509 := Aside0.mk (Kd.V_drew HO509.out)
           replace HO512 := Aside0.mk (Kd.V_drew HO512.out)
           replace HO517 := Aside0.mk (Kd.V_drew HO517.out)
           replace HO520 := Aside0.mk (Kd.V_drew HO520.out)
           replace BK503 := Aside0.mk (xD_ BK503.out)
           replace BK514 := Aside0.mk (xD_ BK514.out)
           replace BK522 := Aside0.mk (xD_ BK522.out)
           replace HB := Aside0.mk (yD_ HB.out)
           have q55 : (a2 : Int) ≤ ((l1.length : Int) : Int) := of_decide_eq_true (by first | (with_reducible assumption) | assumption)
           obtain ⟨i055, hi055, _, hsz55, _⟩ := info_parts info49
           have hroom55 : l1.length ≤ c1 := HC1.out
           have hC55 : Kd.C k49 _ A1 l1.length l1 := HR1.out
           have q055 : (0 : Int) ≤ (a2 : Int) := of_decide_eq_true (by first | (with_reducible assumption) | assumption)
           have hcut55 := cut_from (P := Try.prog) 44 49 .i64 Try.underlying44 hi055 3 hsz55 A1 l1.length c1 a2 q055 q55
           have hr55 := Kd.C_drop (m := (a2 : Int).toNat) (c := c1) hC55 (by omega) hroom55
           obtain ⟨A55, hA55⟩ : ∃ Az_, Az_ = (if c1 = (a2 : Int).toNat then A1 else (A1 : Option Addr).map (·.add ((a2 : Int).toNat * 3))) := ⟨_, rfl⟩
           obtain ⟨c55, hc55⟩ : ∃ cz_, cz_ = c1 - (a2 : Int).toNat := ⟨_, rfl⟩
           have hy55 : y523.length = l1.length - (a2 : Int).toNat := (by rw [Ny523.out, List.length_drop] <;> omega)
           rw [show (l1).drop (a2 : Int).toNat = y523 from Ny523.out.symm] at hr55
           replace hr55 : Kd.C k49 _ A55 y523.length y523 := (by rw [hA55]; exact hr55)
           rw [← hy55, ← hA55, ← hc55] at hcut55
           have HR526 := Aside0.mk hr55
           have HC526 := Aside0.mk (show y523.length ≤ c55 from by rw [hy55, hc55]; exact Nat.sub_le_sub_right hroom55 _)
           clear hr55 hC55 hroom55 hi055 hsz55 hc55
           have KY55 := Aside0.mk hy55
           have KA55 := Aside0.mk hA55
           clear hy55 hA55
           replace q55 := eq_true q55
           refine start_ (n := 15) (S := fun w' => w'.cell? ⟨gb522, 0, none⟩ = some (.slice Ao48 t515.length co48) ∧ w'.cell? ⟨gb522, 1, none⟩ = some (.slice Ao52 t518.length co52)) (ds := []) #[false, false, false, false, false, false, false, false, false, false, false, false, false, false, false] (by kernel_rfl) rfl rfl ⟨(xC_ BK522.out 0).trans rfl, (xC_ BK522.out 1).trans rfl⟩ (fun hHeld => ?_); refine with_tabW armadalaw01_DiskParts.tab5 armadalaw01_DiskParts.bits5 (fun HT_ HW_ => ?_)
           generalize w53.drew = w54 at HO509 HO512 HO517 HO520 BK503 BK514 BK522 HB HR526 hHeld ⊢
           refine pure_ (i := 1) (N := some 53) (v := ?_) (a' := ?_) #[false, true, false, false, false, false, false, false, false, false, false, false, false, false, false] rfl rfl (any_of HT_.out (by kernel_rfl)) (fun _ _ _ h => h) (Or.inl ⟨by rfl, ?_⟩) ?_ ?_
           rotate_left
           ·intro w'
            go_simp
            with_reducible rfl
           rotate_left
           ·simp only [Act.put, List.setIfInBounds_toArray, List.set_cons_zero, List.set_cons_succ, i64_w, i32_w]
            rfl
           refine pure_ (i := 2) (N := some 54) (v := ?_) (a' := ?_) #[false, true, true, false, false, false, false, false, false, false, false, false, false, false, false] rfl rfl (any_of HT_.out (by kernel_rfl)) (fun _ _ _ h => h) (Or.inl ⟨by rfl, ?_⟩) ?_ ?_
           rotate_left
           ·intro w'
            go_simp
            with_reducible rfl
           rotate_left
           ·simp only [Act.put, List.setIfInBounds_toArray, List.set_cons_zero, List.set_cons_succ, i64_w, i32_w]
            rfl
           refine pure_ (i := 3) (N := some 55) (v := ?_) (a' := ?_) #[false, true, true, true, false, false, false, false, false, false, false, false, false, false, false] rfl rfl (any_of HT_.out (by kernel_rfl)) (fun _ _ _ h => h) (Or.inl ⟨by rfl, ?_⟩) ?_ ?_
           rotate_left
           ·intro w'
            go_simp
            with_reducible rfl
           rotate_left
           ·simp only [Act.put, List.setIfInBounds_toArray, List.set_cons_zero, List.set_cons_succ, i64_w, i32_w]
            rfl
           refine pure_ (i := 4) (N := some 56) (v := ?_) (a' := ?_) #[false, true, true, true, true, false, false, false, false, false, false, false, false, false, false] rfl rfl (any_of HT_.out (by kernel_rfl)) (fun _ _ _ h => h) (Or.inl ⟨by rfl, ?_⟩) ?_ ?_
           rotate_left
           ·intro w'
            go_simp
            with_reducible rfl
           rotate_left
           ·simp only [Act.put, List.setIfInBounds_toArray, List.set_cons_zero, List.set_cons_succ, i64_w, i32_w]
            rfl
           refine pure_ (i := 5) (N := some 57) (v := ?_) (a' := ?_) #[false, true, true, true, true, true, false, false, false, false, false, false, false, false, false] rfl rfl (any_of HT_.out (by kernel_rfl)) (fun _ _ _ h => h) (Or.inl ⟨by rfl, ?_⟩) ?_ ?_
           rotate_left
           ·intro w'
            go_simp
            with_reducible rfl
           rotate_left
           ·simp only [Act.put, List.setIfInBounds_toArray, List.set_cons_zero, List.set_cons_succ, i64_w, i32_w]
            rfl
           refine pure_ (i := 6) (N := some 58) (v := ?_) (a' := ?_) #[false, true, true, true, true, true, true, false, false, false, false, false, false, false, false] rfl rfl (any_of HT_.out (by kernel_rfl)) (fun _ _ _ h => h) (Or.inl ⟨by rfl, ?_⟩) ?_ ?_
           rotate_left
           ·intro w'
            go_simp
            with_reducible rfl
           rotate_left
           ·simp only [Act.put, List.setIfInBounds_toArray, List.set_cons_zero, List.set_cons_succ, i64_w, i32_w]
            rfl
           refine pure_ (i := 7) (N := some 59) (v := ?_) (a' := ?_) #[false, true, true, true, true, true, true, true, false, false, false, false, false, false, false] rfl rfl (any_of HT_.out (by kernel_rfl)) (fun _ _ _ h => h) (Or.inl ⟨by rfl, ?_⟩) ?_ ?_
           rotate_left
           ·intro w'
            go_simp
            with_reducible rfl
           rotate_left
           ·simp only [Act.put, List.setIfInBounds_toArray, List.set_cons_zero, List.set_cons_succ, i64_w, i32_w]
            rfl
           refine take_ (i := 0) (N := some 52) (v := ?_) (a' := ?_) #[true, true, true, true, true, true, true, true, false, false, false, false, false, false, false] rfl rfl (take_ofW HT_.out HW_.out (by kernel_rfl)) (fun _ _ _ h => h) (Or.inl ⟨by rfl, ?_⟩) hHeld ?_ ?_
           rotate_left
           ·rintro w' ⟨s0, s1⟩
            go_simp
            with_reducible rfl
           rotate_left
           ·simp only [Act.put, List.setIfInBounds_toArray, List.set_cons_zero, List.set_cons_succ, i64_w, i32_w]
            rfl
           refine join_ (σ := Value × Value × Nat) 2 #[true, true, true, true, true, true, true, true, true, true, true, true, true, false, false] (fun s_ => [(60, .tuple #[.agg #[s_.1, s_.2.1], .int .i64 t533]), (11, .pointer (some ⟨s_.2.2, 0, none⟩)), (51, .tuple #[.agg #[s_.1, s_.2.1], .int .i64 t533]), (61, .agg #[s_.1, s_.2.1]), (62, .int .i64 t533)]) (fun s_ w' => (w'.cell? ⟨gb522, 0, none⟩ = some (.slice Ao48 t515.length co48) ∧ w'.cell? ⟨gb522, 1, none⟩ = some (.slice Ao52 t518.length co52)) ∧ (Kd.V Kd.string 9 w' w.heap.size (fun k_ => k_ ≠ gb503 ∧ k_ ≠ gb514 ∧ k_ ≠ gb522 ∧ k_ ≠ s_.2.2) (.slice Ao40 t507.length co40) t507) ∧ (Kd.V k27 27 w' w.heap.size (fun k_ => k_ ≠ gb503 ∧ k_ ≠ gb514 ∧ k_ ≠ gb522 ∧ k_ ≠ s_.2.2) (.slice Ao43 t510.length co43) t510) ∧ (Kd.V Kd.string 9 w' w.heap.size (fun k_ => k_ ≠ gb503 ∧ k_ ≠ gb514 ∧ k_ ≠ gb522 ∧ k_ ≠ s_.2.2) (.slice Ao48 t515.length co48) t515) ∧ (Kd.V k27 27 w' w.heap.size (fun k_ => k_ ≠ gb503 ∧ k_ ≠ gb514 ∧ k_ ≠ gb522 ∧ k_ ≠ s_.2.2) (.slice Ao52 t518.length co52) t518) ∧ (Kd.V Kd.string 9 w' w.heap.size (fun k_ => k_ ≠ gb503 ∧ k_ ≠ gb514 ∧ k_ ≠ gb522 ∧ k_ ≠ s_.2.2) s_.1 t527) ∧ (Kd.V k27 27 w' w.heap.size (fun k_ => k_ ≠ gb503 ∧ k_ ≠ gb514 ∧ k_ ≠ gb522 ∧ k_ ≠ s_.2.2) s_.2.1 t530) ∧ (w'.heap[gb503]? = some (.cells #[.slice A0_0 l0_0.length c0_0, .slice A0_1 l0_1.length c0_1] 25 (0, 0))) ∧ (w'.heap[gb514]? = some (.cells #[.slice Ao40 t507.length co40, .slice Ao43 t510.length co43] 25 (0, 0))) ∧ (w'.heap[gb522]? = some (.cells #[.slice Ao48 t515.length co48, .slice Ao52 t518.length co52] 25 (0, 0))) ∧ (w'.heap[s_.2.2]? = some (.cells #[.slice none 0 0, .slice none 0 0] 25 (0, 0))) ∧ (w.heap.size ≤ s_.2.2) ∧ (w.heap.size ≤ s_.2.2) ∧ (gb503 ≠ s_.2.2) ∧ (s_.2.2 ≠ gb503) ∧ (gb514 ≠ s_.2.2) ∧ (s_.2.2 ≠ gb514) ∧ (gb522 ≠ s_.2.2) ∧ (s_.2.2 ≠ gb522) ∧ (Below w.heap.size w w')) ?_ ?_
           rotate_left
           ·intro hCont
            refine two_ (i := 8) (j := 12) (Ni := some 60) (Nj := some 11) #[true, true, true, true, true, true, true, true, true, false, false, false, false, false, false] #[true, true, true, true, true, true, true, true, false, false, false, false, true, false, false] rfl rfl rfl rfl (two_of HT_.out (by kernel_rfl)) (by decide) (by decide) (fun K hK => ?_) (fun K hK => ?_)
            ·skip
             refine goes_ Try.func26 (by kernel_rfl) rfl #[.agg #[.slice Ao48 t515.length co48, .slice Ao52 t518.length co52], .slice A55 y523.length c55, .int .i64 (wrap64 ((l1.length : Int) - a2))] (by rfl) rfl rfl (by (try simp only [List.map_toArray, List.map_cons, List.map_nil]); first | done | rfl) ?_
             with_reducible refine (disk_Run.calls kj3 (fun k_ => (k_ ≠ gb503 ∧ (k_ ≠ gb514 ∧ k_ ≠ gb522))) _ _ t515 (fun k_ => (k_ ≠ gb503 ∧ (k_ ≠ gb514 ∧ k_ ≠ gb522))) _ _ t518 _ _ y523 (wrap64 ((l1.length : Int) - a2)) t527 t530 t533 _ ?side1 ?side2 ?side3 ?side4 A26.out).mono ?_
             (case side1 => exact HO517.out)
             (case side2 => exact HO520.out)
             (case side3 => repeat (first | exact (Kd.C_below HR526.out HB.out) | (with_reducible refine Kd.C_alloc ?_ _) | (with_reducible refine Kd.C_drewN ?_ _) | (with_reducible refine Kd.C_drew ?_)))
             (case side4 => exact HC526.out)
             rintro e w56 ⟨v528, v531, rfl, ho0, ho1, hb⟩
             refine ⟨_, rfl, ?_⟩
             have hz_ := zq HB (by repeat (first | (with_reducible first | exact Below.refl _ _ | apply yA_ | apply yN_ | apply yD_) | exact Below.refl _ _)) hb
             replace hb := below_step hz_ hb
             replace HO509 := zV HO509 hb
             replace HO512 := zV HO512 hb
             replace HO517 := zV HO517 hb
             replace HO520 := zV HO520 hb
             have HO529 := Aside0.mk (Kd.V_lower (Kd.V_mono (ok' := fun k_ => k_ ≠ gb503 ∧ k_ ≠ gb514 ∧ k_ ≠ gb522) ho0 (fun k_ hk_ => ⟨Or.elim hk_ (fun hs_ => Or.elim hs_ (fun hs_ => hs_.1) (fun hs_ => hs_.1)) (zf BK503 hz_ k_), Or.elim hk_ (fun hs_ => Or.elim hs_ (fun hs_ => hs_.2.1) (fun hs_ => hs_.2.1)) (zf BK514 hz_ k_), Or.elim hk_ (fun hs_ => Or.elim hs_ (fun hs_ => hs_.2.2) (fun hs_ => hs_.2.2)) (zf BK522 hz_ k_)⟩)) (zs HB hz_))
             have HO532 := Aside0.mk (Kd.V_lower (Kd.V_mono (ok' := fun k_ => k_ ≠ gb503 ∧ k_ ≠ gb514 ∧ k_ ≠ gb522) ho1 (fun k_ hk_ => ⟨Or.elim hk_ (fun hs_ => Or.elim hs_ (fun hs_ => hs_.1) (fun hs_ => hs_.1)) (zf BK503 hz_ k_), Or.elim hk_ (fun hs_ => Or.elim hs_ (fun hs_ => hs_.2.1) (fun hs_ => hs_.2.1)) (zf BK514 hz_ k_), Or.elim hk_ (fun hs_ => Or.elim hs_ (fun hs_ => hs_.2.2) (fun hs_ => hs_.2.2)) (zf BK522 hz_ k_)⟩)) (zs HB hz_))
             replace BK503 := zB BK503 hb
             replace BK514 := zB BK514 hb
             replace BK522 := zB BK522 hb
             replace HB := zH HB hb
             clear hz_
             (try clear hb)
             (try clear hb2)
             (try clear hk)
             (try clear hi)
             (try clear ho0)
             (try clear ho1)
             refine hK.out _ _ ⟨(xC_ BK522.out 0).trans rfl, (xC_ BK522.out 1).trans rfl⟩ (fun hHeld => ?_)
             clear hK K
             refine norm_ (a' := ?_) ?_ ?_
             rotate_left
             ·show Act.put _ (some 60) _ = _
              simp only [Act.put, List.setIfInBounds_toArray, List.set_cons_zero, List.set_cons_succ, i64_w, i32_w]
              rfl
             refine pure_ (i := 9) (N := some 51) (v := ?_) (a' := ?_) #[true, true, true, true, true, true, true, true, true, true, false, false, false, false, false] rfl rfl (any_of HT_.out (by kernel_rfl)) (fun _ _ _ h => h) (Or.inl ⟨by rfl, ?_⟩) ?_ ?_
             rotate_left
             ·intro w'
              go_simp
              with_reducible rfl
             rotate_left
             ·simp only [Act.put, List.setIfInBounds_toArray, List.set_cons_zero, List.set_cons_succ, i64_w, i32_w]
              rfl
             refine pure_ (i := 10) (N := some 61) (v := ?_) (a' := ?_) #[true, true, true, true, true, true, true, true, true, true, true, false, false, false, false] rfl rfl (any_of HT_.out (by kernel_rfl)) (fun _ _ _ h => h) (Or.inl ⟨by rfl, ?_⟩) ?_ ?_
             rotate_left
             ·intro w'
              go_simp
              with_reducible rfl
             rotate_left
             ·simp only [Act.put, List.setIfInBounds_toArray, List.set_cons_zero, List.set_cons_succ, i64_w, i32_w]
              rfl
             refine pure_ (i := 11) (N := some 62) (v := ?_) (a' := ?_) #[true, true, true, true, true, true, true, true, true, true, true, true, false, false, false] rfl rfl (any_of HT_.out (by kernel_rfl)) (fun _ _ _ h => h) (Or.inl ⟨by rfl, ?_⟩) ?_ ?_
             rotate_left
             ·intro w'
              go_simp
              with_reducible rfl
             rotate_left
             ·simp only [Act.put, List.setIfInBounds_toArray, List.set_cons_zero, List.set_cons_succ, i64_w, i32_w]
              rfl
             refine one_ (i := 12) (N := some 11) #[true, true, true, true, true, true, true, true, true, true, true, true, true, false, false] rfl rfl (one_of HT_.out (by kernel_rfl)) (by decide) (fun K hK => ?_)
             refine box_step ?hg (N := 11) ?hd (cs := #[.slice none 0 0, .slice none 0 0]) (t := 25) ?hr ?_; (case hd => rfl); (case hg => rfl); (case hr => first | (go_simp; done) | (go_simp; rfl))
             intro gb534 hg w57 hbox hb
             have hz_ := zq HB (by repeat (first | (with_reducible first | exact Below.refl _ _ | apply yA_ | apply yN_ | apply yD_) | exact Below.refl _ _)) hb
             replace hb := below_step hz_ hb
             replace HO509 := zE HO509 hz_ hg hb
             replace HO512 := zE HO512 hz_ hg hb
             replace HO517 := zE HO517 hz_ hg hb
             replace HO520 := zE HO520 hz_ hg hb
             replace HO529 := zE HO529 hz_ hg hb
             replace HO532 := zE HO532 hz_ hg hb
             have BK534 := Aside0.mk hbox
             have GW534 := zG HB hz_ hg
             have GE534 := zG HB hz_ hg
             have NB503_534 := zN BK503 hz_ hg
             have NB534_503 := zM BK503 hz_ hg
             have NB514_534 := zN BK514 hz_ hg
             have NB534_514 := zM BK514 hz_ hg
             have NB522_534 := zN BK522 hz_ hg
             have NB534_522 := zM BK522 hz_ hg
             replace BK503 := zB BK503 hb
             replace BK514 := zB BK514 hb
             replace BK522 := zB BK522 hb
             replace HB := zH HB hb
             clear hz_
             clear hb hbox hg
             refine hK.out _ _ ⟨(xC_ BK522.out 0).trans rfl, (xC_ BK522.out 1).trans rfl⟩ (fun hHeld => ?_)
             clear hK K
             refine norm_ (a' := ?_) ?_ ?_
             rotate_left
             ·show Act.put _ (some 11) _ = _
              simp only [Act.put, List.setIfInBounds_toArray, List.set_cons_zero, List.set_cons_succ, i64_w, i32_w]
              rfl
             exact norm_ (by simp only [putAll, Act.put, List.setIfInBounds_toArray, List.set_cons_zero, List.set_cons_succ]) (hCont (v528, v531, gb534) _ ⟨hHeld, (by (with_reducible repeat (first | apply Kd.V_alloc | apply Kd.V_drewN | apply Kd.V_drew)); exact Kd.V_mono HO509.out (fun _ hk => ⟨hk.1.1, ⟨hk.1.2.1, ⟨hk.1.2.2, hk.2⟩⟩⟩)), (by (with_reducible repeat (first | apply Kd.V_alloc | apply Kd.V_drewN | apply Kd.V_drew)); exact Kd.V_mono HO512.out (fun _ hk => ⟨hk.1.1, ⟨hk.1.2.1, ⟨hk.1.2.2, hk.2⟩⟩⟩)), (by (with_reducible repeat (first | apply Kd.V_alloc | apply Kd.V_drewN | apply Kd.V_drew)); exact Kd.V_mono HO517.out (fun _ hk => ⟨hk.1.1, ⟨hk.1.2.1, ⟨hk.1.2.2, hk.2⟩⟩⟩)), (by (with_reducible repeat (first | apply Kd.V_alloc | apply Kd.V_drewN | apply Kd.V_drew)); exact Kd.V_mono HO520.out (fun _ hk => ⟨hk.1.1, ⟨hk.1.2.1, ⟨hk.1.2.2, hk.2⟩⟩⟩)), (by (with_reducible repeat (first | apply Kd.V_alloc | apply Kd.V_drewN | apply Kd.V_drew)); exact Kd.V_mono HO529.out (fun _ hk => ⟨hk.1.1, ⟨hk.1.2.1, ⟨hk.1.2.2, hk.2⟩⟩⟩)), (by (with_reducible repeat (first | apply Kd.V_alloc | apply Kd.V_drewN | apply Kd.V_drew)); exact Kd.V_mono HO532.out (fun _ hk => ⟨hk.1.1, ⟨hk.1.2.1, ⟨hk.1.2.2, hk.2⟩⟩⟩)), (by (with_reducible repeat (first | apply xN_ | apply xD_ | apply xA_)); exact BK503.out), (by (with_reducible repeat (first | apply xN_ | apply xD_ | apply xA_)); exact BK514.out), (by (with_reducible repeat (first | apply xN_ | apply xD_ | apply xA_)); exact BK522.out), (by (with_reducible repeat (first | apply xN_ | apply xD_ | apply xA_)); exact BK534.out), GW534.out, GE534.out, NB503_534.out, NB534_503.out, NB514_534.out, NB534_514.out, NB522_534.out, NB534_522.out, (by repeat (first | (with_reducible first | exact HB.out | apply yA_ | apply yN_ | apply yD_ | refine yS_ ?_ GE503.out | refine yS_ ?_ GE514.out | refine yS_ ?_ GE522.out | refine yS_ ?_ GE534.out) | exact HB.out))⟩)
            ·skip
             refine box_step ?hg (N := 11) ?hd (cs := #[.slice none 0 0, .slice none 0 0]) (t := 25) ?hr ?_; (case hd => rfl); (case hg => rfl); (case hr => first | (go_simp; done) | (go_simp; rfl))
             intro gb534 hg w56 hbox hb
             have hz_ := zq HB (by repeat (first | (with_reducible first | exact Below.refl _ _ | apply yA_ | apply yN_ | apply yD_) | exact Below.refl _ _)) hb
             replace hb := below_step hz_ hb
             replace HO509 := zE HO509 hz_ hg hb
             replace HO512 := zE HO512 hz_ hg hb
             replace HO517 := zE HO517 hz_ hg hb
             replace HO520 := zE HO520 hz_ hg hb
             have BK534 := Aside0.mk hbox
             have GW534 := zG HB hz_ hg
             have GE534 := zG HB hz_ hg
             have NB503_534 := zN BK503 hz_ hg
             have NB534_503 := zM BK503 hz_ hg
             have NB514_534 := zN BK514 hz_ hg
             have NB534_514 := zM BK514 hz_ hg
             have NB522_534 := zN BK522 hz_ hg
             have NB534_522 := zM BK522 hz_ hg
             replace BK503 := zB BK503 hb
             replace BK514 := zB BK514 hb
             replace BK522 := zB BK522 hb
             replace HB := zH HB hb
             clear hz_
             clear hb hbox hg
             refine hK.out _ _ ⟨(xC_ BK522.out 0).trans rfl, (xC_ BK522.out 1).trans rfl⟩ (fun hHeld => ?_)
             clear hK K
             refine norm_ (a' := ?_) ?_ ?_
             rotate_left
             ·show Act.put _ (some 11) _ = _
              simp only [Act.put, List.setIfInBounds_toArray, List.set_cons_zero, List.set_cons_succ, i64_w, i32_w]
              rfl
             refine one_ (i := 8) (N := some 60) #[true, true, true, true, true, true, true, true, true, false, false, false, true, false, false] rfl rfl (one_of HT_.out (by kernel_rfl)) (by decide) (fun K hK => ?_)
             refine goes_ Try.func26 (by kernel_rfl) rfl #[.agg #[.slice Ao48 t515.length co48, .slice Ao52 t518.length co52], .slice A55 y523.length c55, .int .i64 (wrap64 ((l1.length : Int) - a2))] (by rfl) rfl rfl (by (try simp only [List.map_toArray, List.map_cons, List.map_nil]); first | done | rfl) ?_
             with_reducible refine (disk_Run.calls kj3 (fun k_ => ((k_ ≠ gb503 ∧ (k_ ≠ gb514 ∧ k_ ≠ gb522)) ∧ k_ ≠ gb534)) _ _ t515 (fun k_ => ((k_ ≠ gb503 ∧ (k_ ≠ gb514 ∧ k_ ≠ gb522)) ∧ k_ ≠ gb534)) _ _ t518 _ _ y523 (wrap64 ((l1.length : Int) - a2)) t527 t530 t533 _ ?side1 ?side2 ?side3 ?side4 A26.out).mono ?_
             (case side1 => exact HO517.out)
             (case side2 => exact HO520.out)
             (case side3 => repeat (first | exact (Kd.C_below HR526.out HB.out) | (with_reducible refine Kd.C_alloc ?_ _) | (with_reducible refine Kd.C_drewN ?_ _) | (with_reducible refine Kd.C_drew ?_)))
             (case side4 => exact HC526.out)
             rintro e w57 ⟨v528, v531, rfl, ho0, ho1, hb⟩
             refine ⟨_, rfl, ?_⟩
             have hz_ := zq HB (by repeat (first | (with_reducible first | exact Below.refl _ _ | apply yA_ | apply yN_ | apply yD_) | exact Below.refl _ _)) hb
             replace hb := below_step hz_ hb
             replace HO509 := zV HO509 hb
             replace HO512 := zV HO512 hb
             replace HO517 := zV HO517 hb
             replace HO520 := zV HO520 hb
             have HO529 := Aside0.mk (Kd.V_lower (Kd.V_mono (ok' := fun k_ => k_ ≠ gb503 ∧ k_ ≠ gb514 ∧ k_ ≠ gb522 ∧ k_ ≠ gb534) ho0 (fun k_ hk_ => ⟨Or.elim hk_ (fun hs_ => Or.elim hs_ (fun hs_ => hs_.1.1) (fun hs_ => hs_.1.1)) (zf BK503 hz_ k_), Or.elim hk_ (fun hs_ => Or.elim hs_ (fun hs_ => hs_.1.2.1) (fun hs_ => hs_.1.2.1)) (zf BK514 hz_ k_), Or.elim hk_ (fun hs_ => Or.elim hs_ (fun hs_ => hs_.1.2.2) (fun hs_ => hs_.1.2.2)) (zf BK522 hz_ k_), Or.elim hk_ (fun hs_ => Or.elim hs_ (fun hs_ => hs_.2) (fun hs_ => hs_.2)) (zf BK534 hz_ k_)⟩)) (zs HB hz_))
             have HO532 := Aside0.mk (Kd.V_lower (Kd.V_mono (ok' := fun k_ => k_ ≠ gb503 ∧ k_ ≠ gb514 ∧ k_ ≠ gb522 ∧ k_ ≠ gb534) ho1 (fun k_ hk_ => ⟨Or.elim hk_ (fun hs_ => Or.elim hs_ (fun hs_ => hs_.1.1) (fun hs_ => hs_.1.1)) (zf BK503 hz_ k_), Or.elim hk_ (fun hs_ => Or.elim hs_ (fun hs_ => hs_.1.2.1) (fun hs_ => hs_.1.2.1)) (zf BK514 hz_ k_), Or.elim hk_ (fun hs_ => Or.elim hs_ (fun hs_ => hs_.1.2.2) (fun hs_ => hs_.1.2.2)) (zf BK522 hz_ k_), Or.elim hk_ (fun hs_ => Or.elim hs_ (fun hs_ => hs_.2) (fun hs_ => hs_.2)) (zf BK534 hz_ k_)⟩)) (zs HB hz_))
             replace BK503 := zB BK503 hb
             replace BK514 := zB BK514 hb
             replace BK522 := zB BK522 hb
             replace BK534 := zB BK534 hb
             replace HB := zH HB hb
             clear hz_
             (try clear hb)
             (try clear hb2)
             (try clear hk)
             (try clear hi)
             (try clear ho0)
             (try clear ho1)
             refine hK.out _ _ ⟨(xC_ BK522.out 0).trans rfl, (xC_ BK522.out 1).trans rfl⟩ (fun hHeld => ?_)
             clear hK K
             refine norm_ (a' := ?_) ?_ ?_
             rotate_left
             ·show Act.put _ (some 60) _ = _
              simp only [Act.put, List.setIfInBounds_toArray, List.set_cons_zero, List.set_cons_succ, i64_w, i32_w]
              rfl
             refine pure_ (i := 9) (N := some 51) (v := ?_) (a' := ?_) #[true, true, true, true, true, true, true, true, true, true, false, false, true, false, false] rfl rfl (any_of HT_.out (by kernel_rfl)) (fun _ _ _ h => h) (Or.inl ⟨by rfl, ?_⟩) ?_ ?_
             rotate_left
             ·intro w'
              go_simp
              with_reducible rfl
             rotate_left
             ·simp only [Act.put, List.setIfInBounds_toArray, List.set_cons_zero, List.set_cons_succ, i64_w, i32_w]
              rfl
             refine pure_ (i := 10) (N := some 61) (v := ?_) (a' := ?_) #[true, true, true, true, true, true, true, true, true, true, true, false, true, false, false] rfl rfl (any_of HT_.out (by kernel_rfl)) (fun _ _ _ h => h) (Or.inl ⟨by rfl, ?_⟩) ?_ ?_
             rotate_left
             ·intro w'
              go_simp
              with_reducible rfl
             rotate_left
             ·simp only [Act.put, List.setIfInBounds_toArray, List.set_cons_zero, List.set_cons_succ, i64_w, i32_w]
              rfl
             refine pure_ (i := 11) (N := some 62) (v := ?_) (a' := ?_) #[true, true, true, true, true, true, true, true, true, true, true, true, true, false, false] rfl rfl (any_of HT_.out (by kernel_rfl)) (fun _ _ _ h => h) (Or.inl ⟨by rfl, ?_⟩) ?_ ?_
             rotate_left
             ·intro w'
              go_simp
              with_reducible rfl
             rotate_left
             ·simp only [Act.put, List.setIfInBounds_toArray, List.set_cons_zero, List.set_cons_succ, i64_w, i32_w]
              rfl
             exact norm_ (by simp only [putAll, Act.put, List.setIfInBounds_toArray, List.set_cons_zero, List.set_cons_succ]) (hCont (v528, v531, gb534) _ ⟨hHeld, (by (with_reducible repeat (first | apply Kd.V_alloc | apply Kd.V_drewN | apply Kd.V_drew)); exact Kd.V_mono HO509.out (fun _ hk => ⟨hk.1.1, ⟨hk.1.2.1, ⟨hk.1.2.2, hk.2⟩⟩⟩)), (by (with_reducible repeat (first | apply Kd.V_alloc | apply Kd.V_drewN | apply Kd.V_drew)); exact Kd.V_mono HO512.out (fun _ hk => ⟨hk.1.1, ⟨hk.1.2.1, ⟨hk.1.2.2, hk.2⟩⟩⟩)), (by (with_reducible repeat (first | apply Kd.V_alloc | apply Kd.V_drewN | apply Kd.V_drew)); exact Kd.V_mono HO517.out (fun _ hk => ⟨hk.1.1, ⟨hk.1.2.1, ⟨hk.1.2.2, hk.2⟩⟩⟩)), (by (with_reducible repeat (first | apply Kd.V_alloc | apply Kd.V_drewN | apply Kd.V_drew)); exact Kd.V_mono HO520.out (fun _ hk => ⟨hk.1.1, ⟨hk.1.2.1, ⟨hk.1.2.2, hk.2⟩⟩⟩)), (by (with_reducible repeat (first | apply Kd.V_alloc | apply Kd.V_drewN | apply Kd.V_drew)); exact HO529.out), (by (with_reducible repeat (first | apply Kd.V_alloc | apply Kd.V_drewN | apply Kd.V_drew)); exact HO532.out), (by (with_reducible repeat (first | apply xN_ | apply xD_ | apply xA_)); exact BK503.out), (by (with_reducible repeat (first | apply xN_ | apply xD_ | apply xA_)); exact BK514.out), (by (with_reducible repeat (first | apply xN_ | apply xD_ | apply xA_)); exact BK522.out), (by (with_reducible repeat (first | apply xN_ | apply xD_ | apply xA_)); exact BK534.out), GW534.out, GE534.out, NB503_534.out, NB534_503.out, NB514_534.out, NB534_514.out, NB522_534.out, NB534_522.out, (by repeat (first | (with_reducible first | exact HB.out | apply yA_ | apply yN_ | apply yD_ | refine yS_ ?_ GE503.out | refine yS_ ?_ GE514.out | refine yS_ ?_ GE522.out | refine yS_ ?_ GE534.out) | exact HB.out))⟩)
           rintro ⟨v528, v531, gb534⟩ w58 ⟨hS_, h0_, h1_, h2_, h3_, h4_, h5_, h6_, h7_, h8_, h9_, h10_, h11_, h12_, h13_, h14_, h15_, h16_, h17_, h18_⟩
           have n0_ : Aside0 (Kd.V Kd.string 9 w58 w.heap.size (fun k_ => k_ ≠ gb503 ∧ k_ ≠ gb514 ∧ k_ ≠ gb522 ∧ k_ ≠ gb534) (.slice Ao40 t507.length co40) t507) := ⟨h0_⟩
           have n1_ : Aside0 (Kd.V k27 27 w58 w.heap.size (fun k_ => k_ ≠ gb503 ∧ k_ ≠ gb514 ∧ k_ ≠ gb522 ∧ k_ ≠ gb534) (.slice Ao43 t510.length co43) t510) := ⟨h1_⟩
           have n2_ : Aside0 (Kd.V Kd.string 9 w58 w.heap.size (fun k_ => k_ ≠ gb503 ∧ k_ ≠ gb514 ∧ k_ ≠ gb522 ∧ k_ ≠ gb534) (.slice Ao48 t515.length co48) t515) := ⟨h2_⟩
           have n3_ : Aside0 (Kd.V k27 27 w58 w.heap.size (fun k_ => k_ ≠ gb503 ∧ k_ ≠ gb514 ∧ k_ ≠ gb522 ∧ k_ ≠ gb534) (.slice Ao52 t518.length co52) t518) := ⟨h3_⟩
           have n4_ : Aside0 (Kd.V Kd.string 9 w58 w.heap.size (fun k_ => k_ ≠ gb503 ∧ k_ ≠ gb514 ∧ k_ ≠ gb522 ∧ k_ ≠ gb534) v528 t527) := ⟨h4_⟩
           have n5_ : Aside0 (Kd.V k27 27 w58 w.heap.size (fun k_ => k_ ≠ gb503 ∧ k_ ≠ gb514 ∧ k_ ≠ gb522 ∧ k_ ≠ gb534) v531 t530) := ⟨h5_⟩
           have n6_ : Aside0 (w58.heap[gb503]? = some (.cells #[.slice A0_0 l0_0.length c0_0, .slice A0_1 l0_1.length c0_1] 25 (0, 0))) := ⟨h6_⟩
           have n7_ : Aside0 (w58.heap[gb514]? = some (.cells #[.slice Ao40 t507.length co40, .slice Ao43 t510.length co43] 25 (0, 0))) := ⟨h7_⟩
           have n8_ : Aside0 (w58.heap[gb522]? = some (.cells #[.slice Ao48 t515.length co48, .slice Ao52 t518.length co52] 25 (0, 0))) := ⟨h8_⟩
           have n9_ : Aside0 (w58.heap[gb534]? = some (.cells #[.slice none 0 0, .slice none 0 0] 25 (0, 0))) := ⟨h9_⟩
           have n10_ : Aside0 (w.heap.size ≤ gb534) := ⟨h10_⟩
           have n11_ : Aside0 (w.heap.size ≤ gb534) := ⟨h11_⟩
           have n12_ : Aside0 (gb503 ≠ gb534) := ⟨h12_⟩
           have n13_ : Aside0 (gb534 ≠ gb503) := ⟨h13_⟩
           have n14_ : Aside0 (gb514 ≠ gb534) := ⟨h14_⟩
           have n15_ : Aside0 (gb534 ≠ gb514) := ⟨h15_⟩
           have n16_ : Aside0 (gb522 ≠ gb534) := ⟨h16_⟩
           have n17_ : Aside0 (gb534 ≠ gb522) := ⟨h17_⟩
           have n18_ : Aside0 (Below w.heap.size w w58) := ⟨h18_⟩
           clear HO509
           clear HO512
           clear HO517
           clear HO520
           clear BK503
           clear BK514
           clear BK522
           clear HB
           clear h0_ h1_ h2_ h3_ h4_ h5_ h6_ h7_ h8_ h9_ h10_ h11_ h12_ h13_ h14_ h15_ h16_ h17_ h18_
           have HO509 := n0_
           have HO512 := n1_
           have HO517 := n2_
           have HO520 := n3_
           have HO529 := n4_
           have HO532 := n5_
           have BK503 := n6_
           have BK514 := n7_
           have BK522 := n8_
           have BK534 := n9_
           have GW534 := n10_
           have GE534 := n11_
           have NB503_534 := n12_
           have NB534_503 := n13_
           have NB514_534 := n14_
           have NB534_514 := n15_
           have NB522_534 := n16_
           have NB534_522 := n17_
           have HB := n18_
           clear n0_ n1_ n2_ n3_ n4_ n5_ n6_ n7_ n8_ n9_ n10_ n11_ n12_ n13_ n14_ n15_ n16_ n17_ n18_
           have hHeld : w58.cell? ⟨gb522, 0, none⟩ = some (.slice Ao48 t515.length co48) ∧ w58.cell? ⟨gb522, 1, none⟩ = some (.slice Ao52 t518.length co52) := hS_
           obtain ⟨Ao59, co59, eo59⟩ := Kd.V_slice HO529.out
           (first | subst eo59 | (injection eo59 with f1_ f2_ f3_; have f4_ := f1_.symm; have f5_ := f3_.symm; clear f1_ f2_ f3_; subst f4_; subst f5_))
           obtain ⟨Ao61, co61, eo61⟩ := Kd.V_slice HO532.out
           (first | subst eo61 | (injection eo61 with f1_ f2_ f3_; have f4_ := f1_.symm; have f5_ := f3_.symm; clear f1_ f2_ f3_; subst f4_; subst f5_))
           refine norm_ (a' := ?_) ?_ ?_
           rotate_left
           ·simp only [putAll, Act.put, List.setIfInBounds_toArray, List.set_cons_zero, List.set_cons_succ]
            rfl
           refine one_ (i := 13) (N := none) #[true, true, true, true, true, true, true, true, true, true, true, true, true, true, false] rfl rfl (one_of HT_.out (by kernel_rfl)) (by decide) (fun K hK => ?_)
           have hs60 : w58.cell? ⟨gb534, 0, none⟩ = some (.slice none 0 0) := (xC_ BK534.out 0).trans rfl
           have hfs60 := xF_ BK534.out 0
           have hns60_0 := NB503_534.out
           have hns60_1 := NB514_534.out
           have hns60_2 := NB522_534.out
           have hms60_0 := NB534_503.out
           have hms60_1 := NB534_514.out
           have hms60_2 := NB534_522.out
           have hs62 : w58.cell? ⟨gb534, 1, none⟩ = some (.slice none 0 0) := (xC_ BK534.out 1).trans rfl
           have hfs62 := xF_ BK534.out 1
           have hns62_0 := NB503_534.out
           have hns62_1 := NB514_534.out
           have hns62_2 := NB522_534.out
           have hms62_0 := NB534_503.out
           have hms62_1 := NB534_514.out
           have hms62_2 := NB534_522.out
           refine skip_ (w1 := ?_) (by rfl) rfl ?_ ?_
           rotate_left
           ·go_simp
            rfl
           refine hK.out _ _ ⟨((cell_far (p := ⟨gb534, _, none⟩) NB522_534.out _).trans (((cell_far (p := ⟨gb534, _, none⟩) NB522_534.out _).trans (hHeld.1)))), ((cell_far (p := ⟨gb534, _, none⟩) NB522_534.out _).trans (((cell_far (p := ⟨gb534, _, none⟩) NB522_534.out _).trans (hHeld.2))))⟩ (fun hHeld => ?_)
           clear hK K
           refine pure_ (i := 14) (N := some 12) (v := ?_) (a' := ?_) #[true, true, true, true, true, true, true, true, true, true, true, true, true, true, true] rfl rfl (any_of HT_.out (by kernel_rfl)) (fun _ _ _ h => h) (Or.inl ⟨by rfl, ?_⟩) ?_ ?_
           rotate_left
           ·intro w'
            go_simp
            with_reducible rfl
           rotate_left
           ·simp only [Act.put, List.setIfInBounds_toArray, List.set_cons_zero, List.set_cons_succ, i64_w, i32_w]
            rfl
           refine done_ (done_of HT_.out (by kernel_rfl)) ?_
           have n0_ : Aside0 (Kd.V Kd.string 9 ((w58.setCell ⟨gb534, 0, none⟩ (.slice Ao59 t527.length co59)).setCell ⟨gb534, 1, none⟩ (.slice Ao61 t530.length co61)) w.heap.size (fun k_ => k_ ≠ gb503 ∧ k_ ≠ gb514 ∧ k_ ≠ gb522 ∧ k_ ≠ gb534) (.slice Ao40 t507.length co40) t507) := ⟨by (with_reducible repeat (first | apply Kd.V_alloc | apply Kd.V_drewN | apply Kd.V_drew)); exact Kd.V_mono (Kd.V_far (p := ⟨gb534, 1, none⟩) (Kd.V_far (p := ⟨gb534, 0, none⟩) (Kd.V_mono HO509.out (fun k_ hk => (⟨hk, hk.2.2.2⟩ : _ ∧ k_ ≠ gb534))) (fun _ hk => hk.2) (.slice Ao59 t527.length co59)) (fun _ hk => hk.2) (.slice Ao61 t530.length co61)) (fun _ hk => ⟨hk.1.1, ⟨hk.1.2.1, ⟨hk.1.2.2.1, hk.1.2.2.2⟩⟩⟩)⟩
           have n1_ : Aside0 (Kd.V k27 27 ((w58.setCell ⟨gb534, 0, none⟩ (.slice Ao59 t527.length co59)).setCell ⟨gb534, 1, none⟩ (.slice Ao61 t530.length co61)) w.heap.size (fun k_ => k_ ≠ gb503 ∧ k_ ≠ gb514 ∧ k_ ≠ gb522 ∧ k_ ≠ gb534) (.slice Ao43 t510.length co43) t510) := ⟨by (with_reducible repeat (first | apply Kd.V_alloc | apply Kd.V_drewN | apply Kd.V_drew)); exact Kd.V_mono (Kd.V_far (p := ⟨gb534, 1, none⟩) (Kd.V_far (p := ⟨gb534, 0, none⟩) (Kd.V_mono HO512.out (fun k_ hk => (⟨hk, hk.2.2.2⟩ : _ ∧ k_ ≠ gb534))) (fun _ hk => hk.2) (.slice Ao59 t527.length co59)) (fun _ hk => hk.2) (.slice Ao61 t530.length co61)) (fun _ hk => ⟨hk.1.1, ⟨hk.1.2.1, ⟨hk.1.2.2.1, hk.1.2.2.2⟩⟩⟩)⟩
           have n2_ : Aside0 (Kd.V Kd.string 9 ((w58.setCell ⟨gb534, 0, none⟩ (.slice Ao59 t527.length co59)).setCell ⟨gb534, 1, none⟩ (.slice Ao61 t530.length co61)) w.heap.size (fun k_ => k_ ≠ gb503 ∧ k_ ≠ gb514 ∧ k_ ≠ gb522 ∧ k_ ≠ gb534) (.slice Ao48 t515.length co48) t515) := ⟨by (with_reducible repeat (first | apply Kd.V_alloc | apply Kd.V_drewN | apply Kd.V_drew)); exact Kd.V_mono (Kd.V_far (p := ⟨gb534, 1, none⟩) (Kd.V_far (p := ⟨gb534, 0, none⟩) (Kd.V_mono HO517.out (fun k_ hk => (⟨hk, hk.2.2.2⟩ : _ ∧ k_ ≠ gb534))) (fun _ hk => hk.2) (.slice Ao59 t527.length co59)) (fun _ hk => hk.2) (.slice Ao61 t530.length co61)) (fun _ hk => ⟨hk.1.1, ⟨hk.1.2.1, ⟨hk.1.2.2.1, hk.1.2.2.2⟩⟩⟩)⟩
           have n3_ : Aside0 (Kd.V k27 27 ((w58.setCell ⟨gb534, 0, none⟩ (.slice Ao59 t527.length co59)).setCell ⟨gb534, 1, none⟩ (.slice Ao61 t530.length co61)) w.heap.size (fun k_ => k_ ≠ gb503 ∧ k_ ≠ gb514 ∧ k_ ≠ gb522 ∧ k_ ≠ gb534) (.slice Ao52 t518.length co52) t518) := ⟨by (with_reducible repeat (first | apply Kd.V_alloc | apply Kd.V_drewN | apply Kd.V_drew)); exact Kd.V_mono (Kd.V_far (p := ⟨gb534, 1, none⟩) (Kd.V_far (p := ⟨gb534, 0, none⟩) (Kd.V_mono HO520.out (fun k_ hk => (⟨hk, hk.2.2.2⟩ : _ ∧ k_ ≠ gb534))) (fun _ hk => hk.2) (.slice Ao59 t527.length co59)) (fun _ hk => hk.2) (.slice Ao61 t530.length co61)) (fun _ hk => ⟨hk.1.1, ⟨hk.1.2.1, ⟨hk.1.2.2.1, hk.1.2.2.2⟩⟩⟩)⟩
           have n4_ : Aside0 (Kd.V Kd.string 9 ((w58.setCell ⟨gb534, 0, none⟩ (.slice Ao59 t527.length co59)).setCell ⟨gb534, 1, none⟩ (.slice Ao61 t530.length co61)) w.heap.size (fun k_ => k_ ≠ gb503 ∧ k_ ≠ gb514 ∧ k_ ≠ gb522 ∧ k_ ≠ gb534) (.slice Ao59 t527.length co59) t527) := ⟨by (with_reducible repeat (first | apply Kd.V_alloc | apply Kd.V_drewN | apply Kd.V_drew)); exact Kd.V_mono (Kd.V_far (p := ⟨gb534, 1, none⟩) (Kd.V_far (p := ⟨gb534, 0, none⟩) (Kd.V_mono HO529.out (fun k_ hk => (⟨hk, hk.2.2.2⟩ : _ ∧ k_ ≠ gb534))) (fun _ hk => hk.2) (.slice Ao59 t527.length co59)) (fun _ hk => hk.2) (.slice Ao61 t530.length co61)) (fun _ hk => ⟨hk.1.1, ⟨hk.1.2.1, ⟨hk.1.2.2.1, hk.1.2.2.2⟩⟩⟩)⟩
           have n5_ : Aside0 (Kd.V k27 27 ((w58.setCell ⟨gb534, 0, none⟩ (.slice Ao59 t527.length co59)).setCell ⟨gb534, 1, none⟩ (.slice Ao61 t530.length co61)) w.heap.size (fun k_ => k_ ≠ gb503 ∧ k_ ≠ gb514 ∧ k_ ≠ gb522 ∧ k_ ≠ gb534) (.slice Ao61 t530.length co61) t530) := ⟨by (with_reducible repeat (first | apply Kd.V_alloc | apply Kd.V_drewN | apply Kd.V_drew)); exact Kd.V_mono (Kd.V_far (p := ⟨gb534, 1, none⟩) (Kd.V_far (p := ⟨gb534, 0, none⟩) (Kd.V_mono HO532.out (fun k_ hk => (⟨hk, hk.2.2.2⟩ : _ ∧ k_ ≠ gb534))) (fun _ hk => hk.2) (.slice Ao59 t527.length co59)) (fun _ hk => hk.2) (.slice Ao61 t530.length co61)) (fun _ hk => ⟨hk.1.1, ⟨hk.1.2.1, ⟨hk.1.2.2.1, hk.1.2.2.2⟩⟩⟩)⟩
           have n6_ : Aside0 (((w58.setCell ⟨gb534, 0, none⟩ (.slice Ao59 t527.length co59)).setCell ⟨gb534, 1, none⟩ (.slice Ao61 t530.length co61)).heap[gb503]? = some (.cells #[.slice A0_0 l0_0.length c0_0, .slice A0_1 l0_1.length c0_1] 25 (0, 0))) := ⟨by (with_reducible repeat (first | apply xN_ | apply xD_ | apply xA_)); refine xR_ ?_ NB503_534.out _; refine xR_ ?_ NB503_534.out _; (with_reducible repeat (first | apply xN_ | apply xD_ | apply xA_)); exact BK503.out⟩
           have n7_ : Aside0 (((w58.setCell ⟨gb534, 0, none⟩ (.slice Ao59 t527.length co59)).setCell ⟨gb534, 1, none⟩ (.slice Ao61 t530.length co61)).heap[gb514]? = some (.cells #[.slice Ao40 t507.length co40, .slice Ao43 t510.length co43] 25 (0, 0))) := ⟨by (with_reducible repeat (first | apply xN_ | apply xD_ | apply xA_)); refine xR_ ?_ NB514_534.out _; refine xR_ ?_ NB514_534.out _; (with_reducible repeat (first | apply xN_ | apply xD_ | apply xA_)); exact BK514.out⟩
           have n8_ : Aside0 (((w58.setCell ⟨gb534, 0, none⟩ (.slice Ao59 t527.length co59)).setCell ⟨gb534, 1, none⟩ (.slice Ao61 t530.length co61)).heap[gb522]? = some (.cells #[.slice Ao48 t515.length co48, .slice Ao52 t518.length co52] 25 (0, 0))) := ⟨by (with_reducible repeat (first | apply xN_ | apply xD_ | apply xA_)); refine xR_ ?_ NB522_534.out _; refine xR_ ?_ NB522_534.out _; (with_reducible repeat (first | apply xN_ | apply xD_ | apply xA_)); exact BK522.out⟩
           have n9_ : Aside0 (((w58.setCell ⟨gb534, 0, none⟩ (.slice Ao59 t527.length co59)).setCell ⟨gb534, 1, none⟩ (.slice Ao61 t530.length co61)).heap[gb534]? = some (.cells #[.slice Ao59 t527.length co59, .slice Ao61 t530.length co61] 25 (0, 0))) := ⟨by (with_reducible repeat (first | apply xN_ | apply xD_ | apply xA_)); refine blk_put (cs := #[.slice Ao59 t527.length co59, .slice none 0 0]) ?_ 1 _ rfl; refine blk_put (cs := #[.slice none 0 0, .slice none 0 0]) ?_ 0 _ rfl; (with_reducible repeat (first | apply xN_ | apply xD_ | apply xA_)); exact BK534.out⟩
           have n10_ : Aside0 (Below w.heap.size w ((w58.setCell ⟨gb534, 0, none⟩ (.slice Ao59 t527.length co59)).setCell ⟨gb534, 1, none⟩ (.slice Ao61 t530.length co61))) := ⟨by repeat (first | (with_reducible first | exact HB.out | apply yA_ | apply yN_ | apply yD_ | refine yS_ ?_ GE503.out | refine yS_ ?_ GE514.out | refine yS_ ?_ GE522.out | refine yS_ ?_ GE534.out) | exact HB.out)⟩
           (try clear HO509)
           (try clear HO512)
           (try clear HO517)
           (try clear HO520)
           (try clear HO529)
           (try clear HO532)
           (try clear BK503)
           (try clear BK514)
           (try clear BK522)
           (try clear BK534)
           (try clear HB)
           generalize ((w58.setCell ⟨gb534, 0, none⟩ (.slice Ao59 t527.length co59)).setCell ⟨gb534, 1, none⟩ (.slice Ao61 t530.length co61)) = w63 at n0_ n1_ n2_ n3_ n4_ n5_ n6_ n7_ n8_ n9_ n10_ ⊢
           have HO509 := n0_
           have HO512 := n1_
           have HO517 := n2_
           have HO520 := n3_
           have HO529 := n4_
           have HO532 := n5_
           have BK503 := n6_
           have BK514 := n7_
           have BK522 := n8_
           have BK534 := n9_
           have HB := n10_
           clear n0_ n1_ n2_ n3_ n4_ n5_ n6_ n7_ n8_ n9_ n10_
           have hnb64 := NB514_534.out
           have hnc64 := NB534_514.out
           have hcz65_0 : w63.cell? ⟨gb514, 0, none⟩ = some (.slice Ao40 t507.length co40) := (xC_ BK514.out 0).trans rfl
           have hcz65_1 : w63.cell? ⟨gb514, 1, none⟩ = some (.slice Ao43 t510.length co43) := (xC_ BK514.out 1).trans rfl
           have hfz65_0 := xF_ BK514.out 0
           have hfz65_1 := xF_ BK514.out 1
           try go_wp2_with (first | ((with_reducible refine gate_callee (f := 18) rfl ?_); refine goesL_ (some 81) rfl rfl Try.func18 (by kernel_rfl) rfl #[.agg #[.slice Ao40 t507.length co40, .slice Ao43 t510.length co43]] rfl (by (try simp only [List.map_toArray, List.map_cons, List.map_nil]); first | done | rfl) ?_; (with_reducible refine (disk_Flush.calls (fun k_ => (k_ ≠ gb503 ∧ (k_ ≠ gb514 ∧ (k_ ≠ gb522 ∧ k_ ≠ gb534)))) _ _ t507 (fun k_ => (k_ ≠ gb503 ∧ (k_ ≠ gb514 ∧ (k_ ≠ gb522 ∧ k_ ≠ gb534)))) _ _ t510 t539 t542 t545 _ ?side1 ?side2 A28.out).mono ?_); (case side1 => exact HO509.out); (case side2 => exact HO512.out); rintro e w66 ⟨v540, v543, rfl, ho0, ho1, hb⟩; refine ⟨_, rfl, ?_⟩; have hz_ := zq HB (by repeat (first | (with_reducible first | exact Below.refl _ _ | apply yA_ | apply yN_ | apply yD_) | exact Below.refl _ _)) hb; replace hb := below_step hz_ hb; replace HO509 := zV HO509 hb; replace HO512 := zV HO512 hb; replace HO517 := zV HO517 hb; replace HO520 := zV HO520 hb; replace HO529 := zV HO529 hb; replace HO532 := zV HO532 hb; have HO541 := Aside0.mk (Kd.V_lower (Kd.V_mono (ok' := fun k_ => k_ ≠ gb503 ∧ k_ ≠ gb514 ∧ k_ ≠ gb522 ∧ k_ ≠ gb534) ho0 (fun k_ hk_ => ⟨Or.elim hk_ (fun hs_ => Or.elim hs_ (fun hs_ => hs_.1) (fun hs_ => hs_.1)) (zf BK503 hz_ k_), Or.elim hk_ (fun hs_ => Or.elim hs_ (fun hs_ => hs_.2.1) (fun hs_ => hs_.2.1)) (zf BK514 hz_ k_), Or.elim hk_ (fun hs_ => Or.elim hs_ (fun hs_ => hs_.2.2.1) (fun hs_ => hs_.2.2.1)) (zf BK522 hz_ k_), Or.elim hk_ (fun hs_ => Or.elim hs_ (fun hs_ => hs_.2.2.2) (fun hs_ => hs_.2.2.2)) (zf BK534 hz_ k_)⟩)) (zs HB hz_)); have HO544 := Aside0.mk (Kd.V_lower (Kd.V_mono (ok' := fun k_ => k_ ≠ gb503 ∧ k_ ≠ gb514 ∧ k_ ≠ gb522 ∧ k_ ≠ gb534) ho1 (fun k_ hk_ => ⟨Or.elim hk_ (fun hs_ => Or.elim hs_ (fun hs_ => hs_.1) (fun hs_ => hs_.1)) (zf BK503 hz_ k_), Or.elim hk_ (fun hs_ => Or.elim hs_ (fun hs_ => hs_.2.1) (fun hs_ => hs_.2.1)) (zf BK514 hz_ k_), Or.elim hk_ (fun hs_ => Or.elim hs_ (fun hs_ => hs_.2.2.1) (fun hs_ => hs_.2.2.1)) (zf BK522 hz_ k_), Or.elim hk_ (fun hs_ => Or.elim hs_ (fun hs_ => hs_.2.2.2) (fun hs_ => hs_.2.2.2)) (zf BK534 hz_ k_)⟩)) (zs HB hz_)); replace BK503 := zB BK503 hb; replace BK514 := zB BK514 hb; replace BK522 := zB BK522 hb; replace BK534 := zB BK534 hb; replace HB := zH HB hb; clear hz_; (try clear hb); (try clear ho0); (try clear ho1)) | ((with_reducible refine gate_dst (N := 13) rfl ?_); (try (refine gate_guard (by rfl) ?_; dsimp only)); refine box_event ?hg (N := 13) ?hd (cs := #[.slice none 0 0, .slice none 0 0]) (t := 25) ?hr ?_; (case hd => rfl); (case hg => rfl); (case hr => first | (go_simp; done) | (go_simp; rfl)); intro gb546 hg w67 hbox hb; have hz_ := zq HB (by repeat (first | (with_reducible first | exact Below.refl _ _ | apply yA_ | apply yN_ | apply yD_) | exact Below.refl _ _)) hb; replace hb := below_step hz_ hb; replace HO509 := zE HO509 hz_ hg hb; replace HO512 := zE HO512 hz_ hg hb; replace HO517 := zE HO517 hz_ hg hb; replace HO520 := zE HO520 hz_ hg hb; replace HO529 := zE HO529 hz_ hg hb; replace HO532 := zE HO532 hz_ hg hb; replace HO541 := zE HO541 hz_ hg hb; replace HO544 := zE HO544 hz_ hg hb; have BK546 := Aside0.mk hbox; have GW546 := zG HB hz_ hg; have GE546 := zG HB hz_ hg; have NB503_546 := zN BK503 hz_ hg; have NB546_503 := zM BK503 hz_ hg; have NB514_546 := zN BK514 hz_ hg; have NB546_514 := zM BK514 hz_ hg; have NB522_546 := zN BK522 hz_ hg; have NB546_522 := zM BK522 hz_ hg; have NB534_546 := zN BK534 hz_ hg; have NB546_534 := zM BK534 hz_ hg; replace BK503 := zB BK503 hb; replace BK514 := zB BK514 hb; replace BK522 := zB BK522 hb; replace BK534 := zB BK534 hb; replace HB := zH HB hb; clear hz_; clear hb hbox hg; obtain ⟨Ao68, co68, eo68⟩ := Kd.V_slice HO541.out; subst eo68; have hnb69 := NB546_503.out; have hnc69 := NB503_546.out; have hnb70 := NB546_514.out; have hnc70 := NB514_546.out; have hnb71 := NB546_522.out; have hnc71 := NB522_546.out; have hnb72 := NB546_534.out; have hnc72 := NB534_546.out; have hcz73_0 : w67.cell? ⟨gb546, 0, none⟩ = some (.slice none 0 0) := (xC_ BK546.out 0).trans rfl; have hcz73_1 : w67.cell? ⟨gb546, 1, none⟩ = some (.slice none 0 0) := (xC_ BK546.out 1).trans rfl; have hfz73_0 := xF_ BK546.out 0; have hfz73_1 := xF_ BK546.out 1; obtain ⟨Ao74, co74, eo74⟩ := Kd.V_slice HO544.out; subst eo74) | ((with_reducible refine gate_store (t := 25) (p := 13) rfl ?_); refine store_event (t := 25) (p := 13) (v := ?vo_w75) (w1 := ((w67.setCell ⟨gb546, 0, none⟩ (.slice Ao68 t539.length co68)).setCell ⟨gb546, 1, none⟩ (.slice Ao74 t542.length co74))) ?hg ?ho ?hn ?hr ?_; (case ho => rfl); (case hg => rfl); (case hn => rfl); (case hr => first | (go_simp; done) | (go_simp; rfl)); intro w75 hw; have n0_ : Aside0 (Kd.V Kd.string 9 w75 w.heap.size (fun k_ => k_ ≠ gb503 ∧ k_ ≠ gb514 ∧ k_ ≠ gb522 ∧ k_ ≠ gb534 ∧ k_ ≠ gb546) (.slice Ao40 t507.length co40) t507) := ⟨(by rw [hw]; exact (by (with_reducible repeat (first | apply Kd.V_alloc | apply Kd.V_drewN | apply Kd.V_drew)); exact Kd.V_mono (Kd.V_far (p := ⟨gb546, 1, none⟩) (Kd.V_far (p := ⟨gb546, 0, none⟩) (Kd.V_mono HO509.out (fun k_ hk => (⟨hk, hk.2⟩ : _ ∧ k_ ≠ gb546))) (fun _ hk => hk.2) (.slice Ao68 t539.length co68)) (fun _ hk => hk.2) (.slice Ao74 t542.length co74)) (fun _ hk => ⟨hk.1.1.1, ⟨hk.1.1.2.1, ⟨hk.1.1.2.2.1, ⟨hk.1.1.2.2.2, hk.1.2⟩⟩⟩⟩)))⟩; have n1_ : Aside0 (Kd.V k27 27 w75 w.heap.size (fun k_ => k_ ≠ gb503 ∧ k_ ≠ gb514 ∧ k_ ≠ gb522 ∧ k_ ≠ gb534 ∧ k_ ≠ gb546) (.slice Ao43 t510.length co43) t510) := ⟨(by rw [hw]; exact (by (with_reducible repeat (first | apply Kd.V_alloc | apply Kd.V_drewN | apply Kd.V_drew)); exact Kd.V_mono (Kd.V_far (p := ⟨gb546, 1, none⟩) (Kd.V_far (p := ⟨gb546, 0, none⟩) (Kd.V_mono HO512.out (fun k_ hk => (⟨hk, hk.2⟩ : _ ∧ k_ ≠ gb546))) (fun _ hk => hk.2) (.slice Ao68 t539.length co68)) (fun _ hk => hk.2) (.slice Ao74 t542.length co74)) (fun _ hk => ⟨hk.1.1.1, ⟨hk.1.1.2.1, ⟨hk.1.1.2.2.1, ⟨hk.1.1.2.2.2, hk.1.2⟩⟩⟩⟩)))⟩; have n2_ : Aside0 (Kd.V Kd.string 9 w75 w.heap.size (fun k_ => k_ ≠ gb503 ∧ k_ ≠ gb514 ∧ k_ ≠ gb522 ∧ k_ ≠ gb534 ∧ k_ ≠ gb546) (.slice Ao48 t515.length co48) t515) := ⟨(by rw [hw]; exact (by (with_reducible repeat (first | apply Kd.V_alloc | apply Kd.V_drewN | apply Kd.V_drew)); exact Kd.V_mono (Kd.V_far (p := ⟨gb546, 1, none⟩) (Kd.V_far (p := ⟨gb546, 0, none⟩) (Kd.V_mono HO517.out (fun k_ hk => (⟨hk, hk.2⟩ : _ ∧ k_ ≠ gb546))) (fun _ hk => hk.2) (.slice Ao68 t539.length co68)) (fun _ hk => hk.2) (.slice Ao74 t542.length co74)) (fun _ hk => ⟨hk.1.1.1, ⟨hk.1.1.2.1, ⟨hk.1.1.2.2.1, ⟨hk.1.1.2.2.2, hk.1.2⟩⟩⟩⟩)))⟩; have n3_ : Aside0 (Kd.V k27 27 w75 w.heap.size (fun k_ => k_ ≠ gb503 ∧ k_ ≠ gb514 ∧ k_ ≠ gb522 ∧ k_ ≠ gb534 ∧ k_ ≠ gb546) (.slice Ao52 t518.length co52) t518) := ⟨(by rw [hw]; exact (by (with_reducible repeat (first | apply Kd.V_alloc | apply Kd.V_drewN | apply Kd.V_drew)); exact Kd.V_mono (Kd.V_far (p := ⟨gb546, 1, none⟩) (Kd.V_far (p := ⟨gb546, 0, none⟩) (Kd.V_mono HO520.out (fun k_ hk => (⟨hk, hk.2⟩ : _ ∧ k_ ≠ gb546))) (fun _ hk => hk.2) (.slice Ao68 t539.length co68)) (fun _ hk => hk.2) (.slice Ao74 t542.length co74)) (fun _ hk => ⟨hk.1.1.1, ⟨hk.1.1.2.1, ⟨hk.1.1.2.2.1, ⟨hk.1.1.2.2.2, hk.1.2⟩⟩⟩⟩)))⟩; have n4_ : Aside0 (Kd.V Kd.string 9 w75 w.heap.size (fun k_ => k_ ≠ gb503 ∧ k_ ≠ gb514 ∧ k_ ≠ gb522 ∧ k_ ≠ gb534 ∧ k_ ≠ gb546) (.slice Ao59 t527.length co59) t527) := ⟨(by rw [hw]; exact (by (with_reducible repeat (first | apply Kd.V_alloc | apply Kd.V_drewN | apply Kd.V_drew)); exact Kd.V_mono (Kd.V_far (p := ⟨gb546, 1, none⟩) (Kd.V_far (p := ⟨gb546, 0, none⟩) (Kd.V_mono HO529.out (fun k_ hk => (⟨hk, hk.2⟩ : _ ∧ k_ ≠ gb546))) (fun _ hk => hk.2) (.slice Ao68 t539.length co68)) (fun _ hk => hk.2) (.slice Ao74 t542.length co74)) (fun _ hk => ⟨hk.1.1.1, ⟨hk.1.1.2.1, ⟨hk.1.1.2.2.1, ⟨hk.1.1.2.2.2, hk.1.2⟩⟩⟩⟩)))⟩; have n5_ : Aside0 (Kd.V k27 27 w75 w.heap.size (fun k_ => k_ ≠ gb503 ∧ k_ ≠ gb514 ∧ k_ ≠ gb522 ∧ k_ ≠ gb534 ∧ k_ ≠ gb546) (.slice Ao61 t530.length co61) t530) := ⟨(by rw [hw]; exact (by (with_reducible repeat (first | apply Kd.V_alloc | apply Kd.V_drewN | apply Kd.V_drew)); exact Kd.V_mono (Kd.V_far (p := ⟨gb546, 1, none⟩) (Kd.V_far (p := ⟨gb546, 0, none⟩) (Kd.V_mono HO532.out (fun k_ hk => (⟨hk, hk.2⟩ : _ ∧ k_ ≠ gb546))) (fun _ hk => hk.2) (.slice Ao68 t539.length co68)) (fun _ hk => hk.2) (.slice Ao74 t542.length co74)) (fun _ hk => ⟨hk.1.1.1, ⟨hk.1.1.2.1, ⟨hk.1.1.2.2.1, ⟨hk.1.1.2.2.2, hk.1.2⟩⟩⟩⟩)))⟩; have n6_ : Aside0 (Kd.V Kd.string 9 w75 w.heap.size (fun k_ => k_ ≠ gb503 ∧ k_ ≠ gb514 ∧ k_ ≠ gb522 ∧ k_ ≠ gb534 ∧ k_ ≠ gb546) (.slice Ao68 t539.length co68) t539) := ⟨(by rw [hw]; exact (by (with_reducible repeat (first | apply Kd.V_alloc | apply Kd.V_drewN | apply Kd.V_drew)); exact Kd.V_mono (Kd.V_far (p := ⟨gb546, 1, none⟩) (Kd.V_far (p := ⟨gb546, 0, none⟩) (Kd.V_mono HO541.out (fun k_ hk => (⟨hk, hk.2⟩ : _ ∧ k_ ≠ gb546))) (fun _ hk => hk.2) (.slice Ao68 t539.length co68)) (fun _ hk => hk.2) (.slice Ao74 t542.length co74)) (fun _ hk => ⟨hk.1.1.1, ⟨hk.1.1.2.1, ⟨hk.1.1.2.2.1, ⟨hk.1.1.2.2.2, hk.1.2⟩⟩⟩⟩)))⟩; have n7_ : Aside0 (Kd.V k27 27 w75 w.heap.size (fun k_ => k_ ≠ gb503 ∧ k_ ≠ gb514 ∧ k_ ≠ gb522 ∧ k_ ≠ gb534 ∧ k_ ≠ gb546) (.slice Ao74 t542.length co74) t542) := ⟨(by rw [hw]; exact (by (with_reducible repeat (first | apply Kd.V_alloc | apply Kd.V_drewN | apply Kd.V_drew)); exact Kd.V_mono (Kd.V_far (p := ⟨gb546, 1, none⟩) (Kd.V_far (p := ⟨gb546, 0, none⟩) (Kd.V_mono HO544.out (fun k_ hk => (⟨hk, hk.2⟩ : _ ∧ k_ ≠ gb546))) (fun _ hk => hk.2) (.slice Ao68 t539.length co68)) (fun _ hk => hk.2) (.slice Ao74 t542.length co74)) (fun _ hk => ⟨hk.1.1.1, ⟨hk.1.1.2.1, ⟨hk.1.1.2.2.1, ⟨hk.1.1.2.2.2, hk.1.2⟩⟩⟩⟩)))⟩; have n8_ : Aside0 (w75.heap[gb503]? = some (.cells #[.slice A0_0 l0_0.length c0_0, .slice A0_1 l0_1.length c0_1] 25 (0, 0))) := ⟨(by rw [hw]; exact (by (with_reducible repeat (first | apply xN_ | apply xD_ | apply xA_)); refine xR_ ?_ NB503_546.out _; refine xR_ ?_ NB503_546.out _; (with_reducible repeat (first | apply xN_ | apply xD_ | apply xA_)); exact BK503.out))⟩; have n9_ : Aside0 (w75.heap[gb514]? = some (.cells #[.slice Ao40 t507.length co40, .slice Ao43 t510.length co43] 25 (0, 0))) := ⟨(by rw [hw]; exact (by (with_reducible repeat (first | apply xN_ | apply xD_ | apply xA_)); refine xR_ ?_ NB514_546.out _; refine xR_ ?_ NB514_546.out _; (with_reducible repeat (first | apply xN_ | apply xD_ | apply xA_)); exact BK514.out))⟩; have n10_ : Aside0 (w75.heap[gb522]? = some (.cells #[.slice Ao48 t515.length co48, .slice Ao52 t518.length co52] 25 (0, 0))) := ⟨(by rw [hw]; exact (by (with_reducible repeat (first | apply xN_ | apply xD_ | apply xA_)); refine xR_ ?_ NB522_546.out _; refine xR_ ?_ NB522_546.out _; (with_reducible repeat (first | apply xN_ | apply xD_ | apply xA_)); exact BK522.out))⟩; have n11_ : Aside0 (w75.heap[gb534]? = some (.cells #[.slice Ao59 t527.length co59, .slice Ao61 t530.length co61] 25 (0, 0))) := ⟨(by rw [hw]; exact (by (with_reducible repeat (first | apply xN_ | apply xD_ | apply xA_)); refine xR_ ?_ NB534_546.out _; refine xR_ ?_ NB534_546.out _; (with_reducible repeat (first | apply xN_ | apply xD_ | apply xA_)); exact BK534.out))⟩; have n12_ : Aside0 (w75.heap[gb546]? = some (.cells #[.slice Ao68 t539.length co68, .slice Ao74 t542.length co74] 25 (0, 0))) := ⟨(by rw [hw]; exact (by (with_reducible repeat (first | apply xN_ | apply xD_ | apply xA_)); refine blk_put (cs := #[.slice Ao68 t539.length co68, .slice none 0 0]) ?_ 1 _ rfl; refine blk_put (cs := #[.slice none 0 0, .slice none 0 0]) ?_ 0 _ rfl; (with_reducible repeat (first | apply xN_ | apply xD_ | apply xA_)); exact BK546.out))⟩; have n13_ : Aside0 (Below w.heap.size w w75) := ⟨(by rw [hw]; exact (by repeat (first | (with_reducible first | exact HB.out | apply yA_ | apply yN_ | apply yD_ | refine yS_ ?_ GE503.out | refine yS_ ?_ GE514.out | refine yS_ ?_ GE522.out | refine yS_ ?_ GE534.out | refine yS_ ?_ GE546.out) | exact HB.out)))⟩; clear hw; clear HO509; clear HO512; clear HO517; clear HO520; clear HO529; clear HO532; clear HO541; clear HO544; clear BK503; clear BK514; clear BK522; clear BK534; clear BK546; clear HB; have HO509 := n0_; have HO512 := n1_; have HO517 := n2_; have HO520 := n3_; have HO529 := n4_; have HO532 := n5_; have HO541 := n6_; have HO544 := n7_; have BK503 := n8_; have BK514 := n9_; have BK522 := n10_; have BK534 := n11_; have BK546 := n12_; have HB := n13_; clear n0_ n1_ n2_ n3_ n4_ n5_ n6_ n7_ n8_ n9_ n10_ n11_ n12_ n13_; have hcz76_0 : w75.cell? ⟨gb546, 0, none⟩ = some (.slice Ao68 t539.length co68) := (xC_ BK546.out 0).trans rfl; have hcz76_1 : w75.cell? ⟨gb546, 1, none⟩ = some (.slice Ao74 t542.length co74) := (xC_ BK546.out 1).trans rfl; have hfz76_0 := xF_ BK546.out 0; have hfz76_1 := xF_ BK546.out 1) | ((with_reducible refine gate_callee (f := 18) rfl ?_); refine goesL_ (some 86) rfl rfl Try.func18 (by kernel_rfl) rfl #[.agg #[.slice Ao68 t539.length co68, .slice Ao74 t542.length co74]] rfl (by (try simp only [List.map_toArray, List.map_cons, List.map_nil]); first | done | rfl) ?_; (with_reducible refine (disk_Flush.calls (fun k_ => (k_ ≠ gb503 ∧ (k_ ≠ gb514 ∧ (k_ ≠ gb522 ∧ (k_ ≠ gb534 ∧ k_ ≠ gb546))))) _ _ t539 (fun k_ => (k_ ≠ gb503 ∧ (k_ ≠ gb514 ∧ (k_ ≠ gb522 ∧ (k_ ≠ gb534 ∧ k_ ≠ gb546))))) _ _ t542 t547 t550 t553 _ ?side1 ?side2 A29.out).mono ?_); (case side1 => exact HO541.out); (case side2 => exact HO544.out); rintro e w77 ⟨v548, v551, rfl, ho0, ho1, hb⟩; refine ⟨_, rfl, ?_⟩; have hz_ := zq HB (by repeat (first | (with_reducible first | exact Below.refl _ _ | apply yA_ | apply yN_ | apply yD_) | exact Below.refl _ _)) hb; replace hb := below_step hz_ hb; replace HO509 := zV HO509 hb; replace HO512 := zV HO512 hb; replace HO517 := zV HO517 hb; replace HO520 := zV HO520 hb; replace HO529 := zV HO529 hb; replace HO532 := zV HO532 hb; replace HO541 := zV HO541 hb; replace HO544 := zV HO544 hb; have HO549 := Aside0.mk (Kd.V_lower (Kd.V_mono (ok' := fun k_ => k_ ≠ gb503 ∧ k_ ≠ gb514 ∧ k_ ≠ gb522 ∧ k_ ≠ gb534 ∧ k_ ≠ gb546) ho0 (fun k_ hk_ => ⟨Or.elim hk_ (fun hs_ => Or.elim hs_ (fun hs_ => hs_.1) (fun hs_ => hs_.1)) (zf BK503 hz_ k_), Or.elim hk_ (fun hs_ => Or.elim hs_ (fun hs_ => hs_.2.1) (fun hs_ => hs_.2.1)) (zf BK514 hz_ k_), Or.elim hk_ (fun hs_ => Or.elim hs_ (fun hs_ => hs_.2.2.1) (fun hs_ => hs_.2.2.1)) (zf BK522 hz_ k_), Or.elim hk_ (fun hs_ => Or.elim hs_ (fun hs_ => hs_.2.2.2.1) (fun hs_ => hs_.2.2.2.1)) (zf BK534 hz_ k_), Or.elim hk_ (fun hs_ => Or.elim hs_ (fun hs_ => hs_.2.2.2.2) (fun hs_ => hs_.2.2.2.2)) (zf BK546 hz_ k_)⟩)) (zs HB hz_)); have HO552 := Aside0.mk (Kd.V_lower (Kd.V_mono (ok' := fun k_ => k_ ≠ gb503 ∧ k_ ≠ gb514 ∧ k_ ≠ gb522 ∧ k_ ≠ gb534 ∧ k_ ≠ gb546) ho1 (fun k_ hk_ => ⟨Or.elim hk_ (fun hs_ => Or.elim hs_ (fun hs_ => hs_.1) (fun hs_ => hs_.1)) (zf BK503 hz_ k_), Or.elim hk_ (fun hs_ => Or.elim hs_ (fun hs_ => hs_.2.1) (fun hs_ => hs_.2.1)) (zf BK514 hz_ k_), Or.elim hk_ (fun hs_ => Or.elim hs_ (fun hs_ => hs_.2.2.1) (fun hs_ => hs_.2.2.1)) (zf BK522 hz_ k_), Or.elim hk_ (fun hs_ => Or.elim hs_ (fun hs_ => hs_.2.2.2.1) (fun hs_ => hs_.2.2.2.1)) (zf BK534 hz_ k_), Or.elim hk_ (fun hs_ => Or.elim hs_ (fun hs_ => hs_.2.2.2.2) (fun hs_ => hs_.2.2.2.2)) (zf BK546 hz_ k_)⟩)) (zs HB hz_)); replace BK503 := zB BK503 hb; replace BK514 := zB BK514 hb; replace BK522 := zB BK522 hb; replace BK534 := zB BK534 hb; replace BK546 := zB BK546 hb; replace HB := zH HB hb; clear hz_; (try clear hb); (try clear ho0); (try clear ho1)) | ((with_reducible refine gate_dst (N := 15) rfl ?_); (try (refine gate_guard (by rfl) ?_; dsimp only)); refine box_event ?hg (N := 15) ?hd (cs := #[.slice none 0 0, .slice none 0 0]) (t := 25) ?hr ?_; (case hd => rfl); (case hg => rfl); (case hr => first | (go_simp; done) | (go_simp; rfl)); intro gb554 hg w78 hbox hb; have hz_ := zq HB (by repeat (first | (with_reducible first | exact Below.refl _ _ | apply yA_ | apply yN_ | apply yD_) | exact Below.refl _ _)) hb; replace hb := below_step hz_ hb; replace HO509 := zE HO509 hz_ hg hb; replace HO512 := zE HO512 hz_ hg hb; replace HO517 := zE HO517 hz_ hg hb; replace HO520 := zE HO520 hz_ hg hb; replace HO529 := zE HO529 hz_ hg hb; replace HO532 := zE HO532 hz_ hg hb; replace HO541 := zE HO541 hz_ hg hb; replace HO544 := zE HO544 hz_ hg hb; replace HO549 := zE HO549 hz_ hg hb; replace HO552 := zE HO552 hz_ hg hb; have BK554 := Aside0.mk hbox; have GW554 := zG HB hz_ hg; have GE554 := zG HB hz_ hg; have NB503_554 := zN BK503 hz_ hg; have NB554_503 := zM BK503 hz_ hg; have NB514_554 := zN BK514 hz_ hg; have NB554_514 := zM BK514 hz_ hg; have NB522_554 := zN BK522 hz_ hg; have NB554_522 := zM BK522 hz_ hg; have NB534_554 := zN BK534 hz_ hg; have NB554_534 := zM BK534 hz_ hg; have NB546_554 := zN BK546 hz_ hg; have NB554_546 := zM BK546 hz_ hg; replace BK503 := zB BK503 hb; replace BK514 := zB BK514 hb; replace BK522 := zB BK522 hb; replace BK534 := zB BK534 hb; replace BK546 := zB BK546 hb; replace HB := zH HB hb; clear hz_; clear hb hbox hg; obtain ⟨Ao79, co79, eo79⟩ := Kd.V_slice HO549.out; subst eo79; have hnb80 := NB554_503.out; have hnc80 := NB503_554.out; have hnb81 := NB554_514.out; have hnc81 := NB514_554.out; have hnb82 := NB554_522.out; have hnc82 := NB522_554.out; have hnb83 := NB554_534.out; have hnc83 := NB534_554.out; have hnb84 := NB554_546.out; have hnc84 := NB546_554.out; have hcz85_0 : w78.cell? ⟨gb554, 0, none⟩ = some (.slice none 0 0) := (xC_ BK554.out 0).trans rfl; have hcz85_1 : w78.cell? ⟨gb554, 1, none⟩ = some (.slice none 0 0) := (xC_ BK554.out 1).trans rfl; have hfz85_0 := xF_ BK554.out 0; have hfz85_1 := xF_ BK554.out 1; obtain ⟨Ao86, co86, eo86⟩ := Kd.V_slice HO552.out; subst eo86; have hcz87_0 : w78.cell? ⟨gb514, 0, none⟩ = some (.slice Ao40 t507.length co40) := (xC_ BK514.out 0).trans rfl; have hcz87_1 : w78.cell? ⟨gb514, 1, none⟩ = some (.slice Ao43 t510.length co43) := (xC_ BK514.out 1).trans rfl; have hfz87_0 := xF_ BK514.out 0; have hfz87_1 := xF_ BK514.out 1; have hnb88 := NB534_503.out; have hnc88 := NB503_534.out; have hnb89 := NB534_522.out; have hnc89 := NB522_534.out; have hcz90_0 : w78.cell? ⟨gb534, 0, none⟩ = some (.slice Ao59 t527.length co59) := (xC_ BK534.out 0).trans rfl; have hcz90_1 : w78.cell? ⟨gb534, 1, none⟩ = some (.slice Ao61 t530.length co61) := (xC_ BK534.out 1).trans rfl; have hfz90_0 := xF_ BK534.out 0; have hfz90_1 := xF_ BK534.out 1) | (go_at_call 15; (with_reducible refine (armadaref01_Same.calls kj3 _ _ t507 _ _ t510 _ _ t527 _ _ t530 true _ ?side1 ?side2 ?side3 ?side4 ?side5 ?side6 ?side7 ?side8 A32.out).mono ?_); (case side1 => refine (Kd.V_reads' (e := 9) (base := w.heap.size) (ok := fun k_ => ((k_ ≠ gb503 ∧ (k_ ≠ gb514 ∧ (k_ ≠ gb522 ∧ (k_ ≠ gb534 ∧ k_ ≠ gb546)))) ∧ k_ ≠ gb554)) (n := t507.length) (c := co40) ?_).2.2; exact (by (with_reducible repeat (first | apply Kd.V_alloc | apply Kd.V_drewN | apply Kd.V_drew)); exact (Kd.V_mono (Kd.V_far (p := ⟨gb554, 1, none⟩) (Kd.V_far (p := ⟨gb554, 0, none⟩) (Kd.V_mono HO509.out (fun k_ hk => (⟨hk, hk.2⟩ : _ ∧ k_ ≠ gb554))) (fun _ hk => hk.2) (.slice Ao79 t547.length co79)) (fun _ hk => hk.2) (.slice Ao86 t550.length co86)) (fun _ h_ => h_.1)))); (case side2 => exact (Kd.V_reads' HO509.out).2.1); (case side3 => refine (Kd.V_reads' (e := 27) (base := w.heap.size) (ok := fun k_ => ((k_ ≠ gb503 ∧ (k_ ≠ gb514 ∧ (k_ ≠ gb522 ∧ (k_ ≠ gb534 ∧ k_ ≠ gb546)))) ∧ k_ ≠ gb554)) (n := t510.length) (c := co43) ?_).2.2; exact (by (with_reducible repeat (first | apply Kd.V_alloc | apply Kd.V_drewN | apply Kd.V_drew)); exact (Kd.V_mono (Kd.V_far (p := ⟨gb554, 1, none⟩) (Kd.V_far (p := ⟨gb554, 0, none⟩) (Kd.V_mono HO512.out (fun k_ hk => (⟨hk, hk.2⟩ : _ ∧ k_ ≠ gb554))) (fun _ hk => hk.2) (.slice Ao79 t547.length co79)) (fun _ hk => hk.2) (.slice Ao86 t550.length co86)) (fun _ h_ => h_.1)))); (case side4 => exact (Kd.V_reads' HO512.out).2.1); (case side5 => refine (Kd.V_reads' (e := 9) (base := w.heap.size) (ok := fun k_ => ((k_ ≠ gb503 ∧ (k_ ≠ gb514 ∧ (k_ ≠ gb522 ∧ (k_ ≠ gb534 ∧ k_ ≠ gb546)))) ∧ k_ ≠ gb554)) (n := t527.length) (c := co59) ?_).2.2; exact (by (with_reducible repeat (first | apply Kd.V_alloc | apply Kd.V_drewN | apply Kd.V_drew)); exact (Kd.V_mono (Kd.V_far (p := ⟨gb554, 1, none⟩) (Kd.V_far (p := ⟨gb554, 0, none⟩) (Kd.V_mono HO529.out (fun k_ hk => (⟨hk, hk.2⟩ : _ ∧ k_ ≠ gb554))) (fun _ hk => hk.2) (.slice Ao79 t547.length co79)) (fun _ hk => hk.2) (.slice Ao86 t550.length co86)) (fun _ h_ => h_.1)))); (case side6 => exact (Kd.V_reads' HO529.out).2.1); (case side7 => refine (Kd.V_reads' (e := 27) (base := w.heap.size) (ok := fun k_ => ((k_ ≠ gb503 ∧ (k_ ≠ gb514 ∧ (k_ ≠ gb522 ∧ (k_ ≠ gb534 ∧ k_ ≠ gb546)))) ∧ k_ ≠ gb554)) (n := t530.length) (c := co61) ?_).2.2; exact (by (with_reducible repeat (first | apply Kd.V_alloc | apply Kd.V_drewN | apply Kd.V_drew)); exact (Kd.V_mono (Kd.V_far (p := ⟨gb554, 1, none⟩) (Kd.V_far (p := ⟨gb554, 0, none⟩) (Kd.V_mono HO532.out (fun k_ hk => (⟨hk, hk.2⟩ : _ ∧ k_ ≠ gb554))) (fun _ hk => hk.2) (.slice Ao79 t547.length co79)) (fun _ hk => hk.2) (.slice Ao86 t550.length co86)) (fun _ h_ => h_.1)))); (case side8 => exact (Kd.V_reads' HO532.out).2.1); rintro e w91 ⟨rfl, hb⟩; have hz_ := zq2 HB gb554 (.slice Ao79 t547.length co79) (.slice Ao86 t550.length co86) (by repeat (first | (with_reducible first | exact Below.refl _ _ | apply yA_ | apply yN_ | apply yD_) | exact Below.refl _ _)) hb; replace hb := below_step hz_ hb; replace HO509 := zF HO509 (fun _ hk => hk.2) hb; replace HO512 := zF HO512 (fun _ hk => hk.2) hb; replace HO517 := zF HO517 (fun _ hk => hk.2) hb; replace HO520 := zF HO520 (fun _ hk => hk.2) hb; replace HO529 := zF HO529 (fun _ hk => hk.2) hb; replace HO532 := zF HO532 (fun _ hk => hk.2) hb; replace HO541 := zF HO541 (fun _ hk => hk.2) hb; replace HO544 := zF HO544 (fun _ hk => hk.2) hb; replace HO549 := zF HO549 (fun _ hk => hk.2) hb; replace HO552 := zF HO552 (fun _ hk => hk.2) hb; replace BK503 := zBF BK503 NB503_554 hb; replace BK514 := zBF BK514 NB514_554 hb; replace BK522 := zBF BK522 NB522_554 hb; replace BK534 := zBF BK534 NB534_554 hb; replace BK546 := zBF BK546 NB546_554 hb; replace BK554 := zBP BK554 hb; replace HB := zHF HB GE554 hb; clear hz_; (try clear hb); have hcz92_0 : w91.cell? ⟨gb546, 0, none⟩ = some (.slice Ao68 t539.length co68) := (xC_ BK546.out 0).trans rfl; have hcz92_1 : w91.cell? ⟨gb546, 1, none⟩ = some (.slice Ao74 t542.length co74) := (xC_ BK546.out 1).trans rfl; have hfz92_0 := xF_ BK546.out 0; have hfz92_1 := xF_ BK546.out 1; have hcz93_0 : w91.cell? ⟨gb554, 0, none⟩ = some (.slice Ao79 t547.length co79) := (xC_ BK554.out 0).trans rfl; have hcz93_1 : w91.cell? ⟨gb554, 1, none⟩ = some (.slice Ao86 t550.length co86) := (xC_ BK554.out 1).trans rfl; have hfz93_0 := xF_ BK554.out 0; have hfz93_1 := xF_ BK554.out 1) | (go_at_call 15; (with_reducible refine (armadaref01_Same.calls kj3 _ _ t539 _ _ t542 _ _ t547 _ _ t550 true _ ?side1 ?side2 ?side3 ?side4 ?side5 ?side6 ?side7 ?side8 A34.out).mono ?_); (case side1 => repeat (first | exact (Kd.V_reads' HO541.out).2.2 | (with_reducible refine Kd.C_alloc ?_ _) | (with_reducible refine Kd.C_drewN ?_ _) | (with_reducible refine Kd.C_drew ?_))); (case side2 => exact (Kd.V_reads' HO541.out).2.1); (case side3 => repeat (first | exact (Kd.V_reads' HO544.out).2.2 | (with_reducible refine Kd.C_alloc ?_ _) | (with_reducible refine Kd.C_drewN ?_ _) | (with_reducible refine Kd.C_drew ?_))); (case side4 => exact (Kd.V_reads' HO544.out).2.1); (case side5 => repeat (first | exact (Kd.V_reads' HO549.out).2.2 | (with_reducible refine Kd.C_alloc ?_ _) | (with_reducible refine Kd.C_drewN ?_ _) | (with_reducible refine Kd.C_drew ?_))); (case side6 => exact (Kd.V_reads' HO549.out).2.1); (case side7 => repeat (first | exact (Kd.V_reads' HO552.out).2.2 | (with_reducible refine Kd.C_alloc ?_ _) | (with_reducible refine Kd.C_drewN ?_ _) | (with_reducible refine Kd.C_drew ?_))); (case side8 => exact (Kd.V_reads' HO552.out).2.1); rintro e w94 ⟨rfl, hb⟩; have hz_ := zq HB (by repeat (first | (with_reducible first | exact Below.refl _ _ | apply yA_ | apply yN_ | apply yD_) | exact Below.refl _ _)) hb; replace hb := below_step hz_ hb; replace HO509 := zV HO509 hb; replace HO512 := zV HO512 hb; replace HO517 := zV HO517 hb; replace HO520 := zV HO520 hb; replace HO529 := zV HO529 hb; replace HO532 := zV HO532 hb; replace HO541 := zV HO541 hb; replace HO544 := zV HO544 hb; replace HO549 := zV HO549 hb; replace HO552 := zV HO552 hb; replace BK503 := zB BK503 hb; replace BK514 := zB BK514 hb; replace BK522 := zB BK522 hb; replace BK534 := zB BK534 hb; replace BK546 := zB BK546 hb; replace BK554 := zB BK554 hb; replace HB := zH HB hb; clear hz_; (try clear hb)) | (go_at_call 10; (with_reducible refine (armadalaw01_live.calls kj3  true _ A36.out).mono ?_); rintro e w95 ⟨rfl, hb⟩; have hz_ := zq HB (by repeat (first | (with_reducible first | exact Below.refl _ _ | apply yA_ | apply yN_ | apply yD_) | exact Below.refl _ _)) hb; replace hb := below_step hz_ hb; replace HO509 := zV HO509 hb; replace HO512 := zV HO512 hb; replace HO517 := zV HO517 hb; replace HO520 := zV HO520 hb; replace HO529 := zV HO529 hb; replace HO532 := zV HO532 hb; replace HO541 := zV HO541 hb; replace HO544 := zV HO544 hb; replace HO549 := zV HO549 hb; replace HO552 := zV HO552 hb; replace BK503 := zB BK503 hb; replace BK514 := zB BK514 hb; replace BK522 := zB BK522 hb; replace BK534 := zB BK534 hb; replace BK546 := zB BK546 hb; replace BK554 := zB BK554 hb; replace HB := zH HB hb; clear hz_; (try clear hb)))
           go_ret
           exact ⟨by first | rfl | (simp [errW_none, errW_some] <;> rfl) | (simp [*, errW_none, errW_some] <;> rfl), by repeat (first | (with_reducible first | exact HB.out | apply yA_ | apply yN_ | apply yD_ | refine yS_ ?_ GE503.out | refine yS_ ?_ GE514.out | refine yS_ ?_ GE522.out | refine yS_ ?_ GE534.out | refine yS_ ?_ GE546.out | refine yS_ ?_ GE554.out) | exact HB.out)⟩
          ·replace c35 := Bool.eq_false_iff.mpr c35
           subst c35
           have H1 : (some false) = some true := by rw [if_neg (show ¬ (false = true) by decide)] at H; exact H
           clear H
           have H := H1
           clear H1
           exact absurd H (by simp)
         ·replace c33 := Bool.eq_false_iff.mpr c33
          subst c33
          have H1 : (some false) = some true := by rw [if_neg (show ¬ (false = true) by decide)] at H; exact H
          clear H
          have H := H1
          clear H1
          exact absurd H (by simp)
        ·rw [if_neg c31] at H
         have c31b0 : (t533 == 0) = false := beq_eq_false_iff_ne.mpr c31
         have c31b1 : (t533 != 0) = true := bne_iff_ne.mpr c31
         exact absurd H (by simp)
       ·rw [if_neg c30] at H
        have c30b0 : (t521 == 0) = false := beq_eq_false_iff_ne.mpr c30
        have c30b1 : (t521 != 0) = true := bne_iff_ne.mpr c30
        exact absurd H (by simp)
      ·rw [if_neg c27] at H
       have c27b0 : (t513 == 0) = false := beq_eq_false_iff_ne.mpr c27
       have c27b1 : (t513 != 0) = true := bne_iff_ne.mpr c27
       by_cases c96 : t521 = 0
       ·rw [if_pos c96] at H
        have c96b0 : (t521 == 0) = true := beq_iff_eq.mpr c96
        have c96b1 : (t521 != 0) = false := bne_eq_false_iff_eq.mpr c96
        clear c96
        by_cases c97 : t533 = 0
        ·rw [if_pos c97] at H
         have c97b0 : (t533 == 0) = true := beq_iff_eq.mpr c97
         have c97b1 : (t533 != 0) = false := bne_eq_false_iff_eq.mpr c97
         clear c97
         exact absurd H (by simp)
        ·rw [if_neg c97] at H
         have c97b0 : (t533 == 0) = false := beq_eq_false_iff_ne.mpr c97
         have c97b1 : (t533 != 0) = true := bne_iff_ne.mpr c97
         replace H := Option.bind_eq_some_iff.mp H
         obtain ⟨t535, A980, H⟩ := H
         replace H : (if t535 = true then ((armadalaw01_live.f kj3).bind fun t536 => (some t536)) else (some false)) = some true := H
         have A98 := Aside0.mk A980
         clear A980
         by_cases c99 : t535 = true
         ·subst c99
          have H1 : ((armadalaw01_live.f kj3).bind fun t536 => (some t536)) = some true := by rw [if_pos rfl] at H; exact H
          clear H
          have H := H1
          clear H1
          replace H := Option.bind_eq_some_iff.mp H
          obtain ⟨t536, A1000, H⟩ := H
          replace H : (some t536) = some true := H
          have A100 := Aside0.mk A1000
          clear A1000
          obtain rfl := Option.some.inj H
          have hcz101_0 : wc.cell? ⟨gb503, 0, none⟩ = some (.slice A0_0 l0_0.length c0_0) := (xC_ BK503.out 0).trans rfl
          have hcz101_1 : wc.cell? ⟨gb503, 1, none⟩ = some (.slice A0_1 l0_1.length c0_1) := (xC_ BK503.out 1).trans rfl
          have hfz101_0 := xF_ BK503.out 0
          have hfz101_1 := xF_ BK503.out 1
          try go_wp2_with (first | ((with_reducible refine gate_callee (f := 26) rfl ?_); refine goesL_ (some 41) rfl rfl Try.func26 (by kernel_rfl) rfl #[.agg #[.slice A0_0 l0_0.length c0_0, .slice A0_1 l0_1.length c0_1], .slice A1 l1.length c1, .int .i64 (l1.length : Int)] rfl (by (try simp only [List.map_toArray, List.map_cons, List.map_nil]); first | done | rfl) ?_; (with_reducible refine (disk_Run.calls kj3 (fun k_ => k_ < w.heap.size) _ _ l0_0 (fun k_ => k_ < w.heap.size) _ _ l0_1 _ _ l1 (l1.length : Int) t507 t510 t513 _ ?side1 ?side2 ?side3 ?side4 A22.out).mono ?_); (case side1 => exact Kd.V_mk HC0_0.out (Kd.F_below (Kd.C_F Kd.heap_string HR0_0.out) (by repeat (first | (with_reducible first | exact HB.out | apply yA_ | apply yN_ | apply yD_ | refine yS_ ?_ GE503.out) | exact HB.out)))); (case side2 => exact Kd.V_mk HC0_1.out (Kd.F_below (Kd.C_F k27_heap HR0_1.out) (by repeat (first | (with_reducible first | exact HB.out | apply yA_ | apply yN_ | apply yD_ | refine yS_ ?_ GE503.out) | exact HB.out)))); (case side3 => repeat (first | exact (Kd.C_below HR1.out HB.out) | (with_reducible refine Kd.C_alloc ?_ _) | (with_reducible refine Kd.C_drewN ?_ _) | (with_reducible refine Kd.C_drew ?_))); (case side4 => exact HC1.out); rintro e w102 ⟨v508, v511, rfl, ho0, ho1, hb⟩; refine ⟨_, rfl, ?_⟩; have hz_ := zq HB (by repeat (first | (with_reducible first | exact Below.refl _ _ | apply yA_ | apply yN_ | apply yD_) | exact Below.refl _ _)) hb; replace hb := below_step hz_ hb; have HO509 := Aside0.mk (Kd.V_lower (Kd.V_mono (ok' := fun k_ => k_ ≠ gb503) ho0 (fun k_ hk_ => Or.elim hk_ (fun hs_ => Or.elim hs_ (zg GW503) (zg GW503)) (zf BK503 hz_ k_))) (zs HB hz_)); have HO512 := Aside0.mk (Kd.V_lower (Kd.V_mono (ok' := fun k_ => k_ ≠ gb503) ho1 (fun k_ hk_ => Or.elim hk_ (fun hs_ => Or.elim hs_ (zg GW503) (zg GW503)) (zf BK503 hz_ k_))) (zs HB hz_)); replace BK503 := zB BK503 hb; replace HB := zH HB hb; clear hz_; (try clear hb); (try clear ho0); (try clear ho1)) | ((with_reducible refine gate_dst (N := 7) rfl ?_); (try (refine gate_guard (by rfl) ?_; dsimp only)); refine box_event ?hg (N := 7) ?hd (cs := #[.slice none 0 0, .slice none 0 0]) (t := 25) ?hr ?_; (case hd => rfl); (case hg => rfl); (case hr => first | (go_simp; done) | (go_simp; rfl)); intro gb514 hg w103 hbox hb; have hz_ := zq HB (by repeat (first | (with_reducible first | exact Below.refl _ _ | apply yA_ | apply yN_ | apply yD_) | exact Below.refl _ _)) hb; replace hb := below_step hz_ hb; replace HO509 := zE HO509 hz_ hg hb; replace HO512 := zE HO512 hz_ hg hb; have BK514 := Aside0.mk hbox; have GW514 := zG HB hz_ hg; have GE514 := zG HB hz_ hg; have NB503_514 := zN BK503 hz_ hg; have NB514_503 := zM BK503 hz_ hg; replace BK503 := zB BK503 hb; replace HB := zH HB hb; clear hz_; clear hb hbox hg; obtain ⟨Ao104, co104, eo104⟩ := Kd.V_slice HO509.out; subst eo104; have hnb105 := NB514_503.out; have hnc105 := NB503_514.out; have hcz106_0 : w103.cell? ⟨gb514, 0, none⟩ = some (.slice none 0 0) := (xC_ BK514.out 0).trans rfl; have hcz106_1 : w103.cell? ⟨gb514, 1, none⟩ = some (.slice none 0 0) := (xC_ BK514.out 1).trans rfl; have hfz106_0 := xF_ BK514.out 0; have hfz106_1 := xF_ BK514.out 1; obtain ⟨Ao107, co107, eo107⟩ := Kd.V_slice HO512.out; subst eo107) | ((with_reducible refine gate_store (t := 25) (p := 7) rfl ?_); refine store_event (t := 25) (p := 7) (v := ?vo_w108) (w1 := ((w103.setCell ⟨gb514, 0, none⟩ (.slice Ao104 t507.length co104)).setCell ⟨gb514, 1, none⟩ (.slice Ao107 t510.length co107))) ?hg ?ho ?hn ?hr ?_; (case ho => rfl); (case hg => rfl); (case hn => rfl); (case hr => first | (go_simp; done) | (go_simp; rfl)); intro w108 hw; have n0_ : Aside0 (Kd.V Kd.string 9 w108 w.heap.size (fun k_ => k_ ≠ gb503 ∧ k_ ≠ gb514) (.slice Ao104 t507.length co104) t507) := ⟨(by rw [hw]; exact (by (with_reducible repeat (first | apply Kd.V_alloc | apply Kd.V_drewN | apply Kd.V_drew)); exact Kd.V_mono (Kd.V_far (p := ⟨gb514, 1, none⟩) (Kd.V_far (p := ⟨gb514, 0, none⟩) (Kd.V_mono HO509.out (fun k_ hk => (⟨hk, hk.2⟩ : _ ∧ k_ ≠ gb514))) (fun _ hk => hk.2) (.slice Ao104 t507.length co104)) (fun _ hk => hk.2) (.slice Ao107 t510.length co107)) (fun _ hk => ⟨hk.1.1, hk.1.2⟩)))⟩; have n1_ : Aside0 (Kd.V k27 27 w108 w.heap.size (fun k_ => k_ ≠ gb503 ∧ k_ ≠ gb514) (.slice Ao107 t510.length co107) t510) := ⟨(by rw [hw]; exact (by (with_reducible repeat (first | apply Kd.V_alloc | apply Kd.V_drewN | apply Kd.V_drew)); exact Kd.V_mono (Kd.V_far (p := ⟨gb514, 1, none⟩) (Kd.V_far (p := ⟨gb514, 0, none⟩) (Kd.V_mono HO512.out (fun k_ hk => (⟨hk, hk.2⟩ : _ ∧ k_ ≠ gb514))) (fun _ hk => hk.2) (.slice Ao104 t507.length co104)) (fun _ hk => hk.2) (.slice Ao107 t510.length co107)) (fun _ hk => ⟨hk.1.1, hk.1.2⟩)))⟩; have n2_ : Aside0 (w108.heap[gb503]? = some (.cells #[.slice A0_0 l0_0.length c0_0, .slice A0_1 l0_1.length c0_1] 25 (0, 0))) := ⟨(by rw [hw]; exact (by (with_reducible repeat (first | apply xN_ | apply xD_ | apply xA_)); refine xR_ ?_ NB503_514.out _; refine xR_ ?_ NB503_514.out _; (with_reducible repeat (first | apply xN_ | apply xD_ | apply xA_)); exact BK503.out))⟩; have n3_ : Aside0 (w108.heap[gb514]? = some (.cells #[.slice Ao104 t507.length co104, .slice Ao107 t510.length co107] 25 (0, 0))) := ⟨(by rw [hw]; exact (by (with_reducible repeat (first | apply xN_ | apply xD_ | apply xA_)); refine blk_put (cs := #[.slice Ao104 t507.length co104, .slice none 0 0]) ?_ 1 _ rfl; refine blk_put (cs := #[.slice none 0 0, .slice none 0 0]) ?_ 0 _ rfl; (with_reducible repeat (first | apply xN_ | apply xD_ | apply xA_)); exact BK514.out))⟩; have n4_ : Aside0 (Below w.heap.size w w108) := ⟨(by rw [hw]; exact (by repeat (first | (with_reducible first | exact HB.out | apply yA_ | apply yN_ | apply yD_ | refine yS_ ?_ GE503.out | refine yS_ ?_ GE514.out) | exact HB.out)))⟩; clear hw; clear HO509; clear HO512; clear BK503; clear BK514; clear HB; have HO509 := n0_; have HO512 := n1_; have BK503 := n2_; have BK514 := n3_; have HB := n4_; clear n0_ n1_ n2_ n3_ n4_; have hcz109_0 : w108.cell? ⟨gb503, 0, none⟩ = some (.slice A0_0 l0_0.length c0_0) := (xC_ BK503.out 0).trans rfl; have hcz109_1 : w108.cell? ⟨gb503, 1, none⟩ = some (.slice A0_1 l0_1.length c0_1) := (xC_ BK503.out 1).trans rfl; have hfz109_0 := xF_ BK503.out 0; have hfz109_1 := xF_ BK503.out 1) | ((with_reducible refine gate_callee (f := 26) rfl ?_); refine goesL_ (some 48) rfl rfl Try.func26 (by kernel_rfl) rfl #[.agg #[.slice A0_0 l0_0.length c0_0, .slice A0_1 l0_1.length c0_1], .slice A1 l1.length c1, .int .i64 a2] rfl (by (try simp only [List.map_toArray, List.map_cons, List.map_nil]); first | done | rfl) ?_; (with_reducible refine (disk_Run.calls kj3 (fun k_ => k_ < w.heap.size) _ _ l0_0 (fun k_ => k_ < w.heap.size) _ _ l0_1 _ _ l1 a2 t515 t518 t521 _ ?side1 ?side2 ?side3 ?side4 A23.out).mono ?_); (case side1 => exact Kd.V_mk HC0_0.out (Kd.F_below (Kd.C_F Kd.heap_string HR0_0.out) (by repeat (first | (with_reducible first | exact HB.out | apply yA_ | apply yN_ | apply yD_ | refine yS_ ?_ GE503.out | refine yS_ ?_ GE514.out) | exact HB.out)))); (case side2 => exact Kd.V_mk HC0_1.out (Kd.F_below (Kd.C_F k27_heap HR0_1.out) (by repeat (first | (with_reducible first | exact HB.out | apply yA_ | apply yN_ | apply yD_ | refine yS_ ?_ GE503.out | refine yS_ ?_ GE514.out) | exact HB.out)))); (case side3 => repeat (first | exact (Kd.C_below HR1.out HB.out) | (with_reducible refine Kd.C_alloc ?_ _) | (with_reducible refine Kd.C_drewN ?_ _) | (with_reducible refine Kd.C_drew ?_))); (case side4 => exact HC1.out); rintro e w110 ⟨v516, v519, rfl, ho0, ho1, hb⟩; refine ⟨_, rfl, ?_⟩; have hz_ := zq HB (by repeat (first | (with_reducible first | exact Below.refl _ _ | apply yA_ | apply yN_ | apply yD_) | exact Below.refl _ _)) hb; replace hb := below_step hz_ hb; replace HO509 := zV HO509 hb; replace HO512 := zV HO512 hb; have HO517 := Aside0.mk (Kd.V_lower (Kd.V_mono (ok' := fun k_ => k_ ≠ gb503 ∧ k_ ≠ gb514) ho0 (fun k_ hk_ => ⟨Or.elim hk_ (fun hs_ => Or.elim hs_ (zg GW503) (zg GW503)) (zf BK503 hz_ k_), Or.elim hk_ (fun hs_ => Or.elim hs_ (zg GW514) (zg GW514)) (zf BK514 hz_ k_)⟩)) (zs HB hz_)); have HO520 := Aside0.mk (Kd.V_lower (Kd.V_mono (ok' := fun k_ => k_ ≠ gb503 ∧ k_ ≠ gb514) ho1 (fun k_ hk_ => ⟨Or.elim hk_ (fun hs_ => Or.elim hs_ (zg GW503) (zg GW503)) (zf BK503 hz_ k_), Or.elim hk_ (fun hs_ => Or.elim hs_ (zg GW514) (zg GW514)) (zf BK514 hz_ k_)⟩)) (zs HB hz_)); replace BK503 := zB BK503 hb; replace BK514 := zB BK514 hb; replace HB := zH HB hb; clear hz_; (try clear hb); (try clear ho0); (try clear ho1)) | ((with_reducible refine gate_dst (N := 9) rfl ?_); (try (refine gate_guard (by rfl) ?_; dsimp only)); refine box_event ?hg (N := 9) ?hd (cs := #[.slice none 0 0, .slice none 0 0]) (t := 25) ?hr ?_; (case hd => rfl); (case hg => rfl); (case hr => first | (go_simp; done) | (go_simp; rfl)); intro gb522 hg w111 hbox hb; have hz_ := zq HB (by repeat (first | (with_reducible first | exact Below.refl _ _ | apply yA_ | apply yN_ | apply yD_) | exact Below.refl _ _)) hb; replace hb := below_step hz_ hb; replace HO509 := zE HO509 hz_ hg hb; replace HO512 := zE HO512 hz_ hg hb; replace HO517 := zE HO517 hz_ hg hb; replace HO520 := zE HO520 hz_ hg hb; have BK522 := Aside0.mk hbox; have GW522 := zG HB hz_ hg; have GE522 := zG HB hz_ hg; have NB503_522 := zN BK503 hz_ hg; have NB522_503 := zM BK503 hz_ hg; have NB514_522 := zN BK514 hz_ hg; have NB522_514 := zM BK514 hz_ hg; replace BK503 := zB BK503 hb; replace BK514 := zB BK514 hb; replace HB := zH HB hb; clear hz_; clear hb hbox hg; obtain ⟨Ao112, co112, eo112⟩ := Kd.V_slice HO517.out; subst eo112; have hnb113 := NB522_503.out; have hnc113 := NB503_522.out; have hnb114 := NB522_514.out; have hnc114 := NB514_522.out; have hcz115_0 : w111.cell? ⟨gb522, 0, none⟩ = some (.slice none 0 0) := (xC_ BK522.out 0).trans rfl; have hcz115_1 : w111.cell? ⟨gb522, 1, none⟩ = some (.slice none 0 0) := (xC_ BK522.out 1).trans rfl; have hfz115_0 := xF_ BK522.out 0; have hfz115_1 := xF_ BK522.out 1; obtain ⟨Ao116, co116, eo116⟩ := Kd.V_slice HO520.out; subst eo116))
          have n0_ : Aside0 (Kd.V Kd.string 9 ((w111.setCell ⟨gb522, 0, none⟩ (.slice Ao112 t515.length co112)).setCell ⟨gb522, 1, none⟩ (.slice Ao116 t518.length co116)) w.heap.size (fun k_ => k_ ≠ gb503 ∧ k_ ≠ gb514 ∧ k_ ≠ gb522) (.slice Ao104 t507.length co104) t507) := ⟨by (with_reducible repeat (first | apply Kd.V_alloc | apply Kd.V_drewN | apply Kd.V_drew)); exact Kd.V_mono (Kd.V_far (p := ⟨gb522, 1, none⟩) (Kd.V_far (p := ⟨gb522, 0, none⟩) (Kd.V_mono HO509.out (fun k_ hk => (⟨hk, hk.2⟩ : _ ∧ k_ ≠ gb522))) (fun _ hk => hk.2) (.slice Ao112 t515.length co112)) (fun _ hk => hk.2) (.slice Ao116 t518.length co116)) (fun _ hk => ⟨hk.1.1.1, ⟨hk.1.1.2, hk.1.2⟩⟩)⟩
          have n1_ : Aside0 (Kd.V k27 27 ((w111.setCell ⟨gb522, 0, none⟩ (.slice Ao112 t515.length co112)).setCell ⟨gb522, 1, none⟩ (.slice Ao116 t518.length co116)) w.heap.size (fun k_ => k_ ≠ gb503 ∧ k_ ≠ gb514 ∧ k_ ≠ gb522) (.slice Ao107 t510.length co107) t510) := ⟨by (with_reducible repeat (first | apply Kd.V_alloc | apply Kd.V_drewN | apply Kd.V_drew)); exact Kd.V_mono (Kd.V_far (p := ⟨gb522, 1, none⟩) (Kd.V_far (p := ⟨gb522, 0, none⟩) (Kd.V_mono HO512.out (fun k_ hk => (⟨hk, hk.2⟩ : _ ∧ k_ ≠ gb522))) (fun _ hk => hk.2) (.slice Ao112 t515.length co112)) (fun _ hk => hk.2) (.slice Ao116 t518.length co116)) (fun _ hk => ⟨hk.1.1.1, ⟨hk.1.1.2, hk.1.2⟩⟩)⟩
          have n2_ : Aside0 (Kd.V Kd.string 9 ((w111.setCell ⟨gb522, 0, none⟩ (.slice Ao112 t515.length co112)).setCell ⟨gb522, 1, none⟩ (.slice Ao116 t518.length co116)) w.heap.size (fun k_ => k_ ≠ gb503 ∧ k_ ≠ gb514 ∧ k_ ≠ gb522) (.slice Ao112 t515.length co112) t515) := ⟨by (with_reducible repeat (first | apply Kd.V_alloc | apply Kd.V_drewN | apply Kd.V_drew)); exact Kd.V_mono (Kd.V_far (p := ⟨gb522, 1, none⟩) (Kd.V_far (p := ⟨gb522, 0, none⟩) (Kd.V_mono HO517.out (fun k_ hk => (⟨hk, hk.2⟩ : _ ∧ k_ ≠ gb522))) (fun _ hk => hk.2) (.slice Ao112 t515.length co112)) (fun _ hk => hk.2) (.slice Ao116 t518.length co116)) (fun _ hk => ⟨hk.1.1.1, ⟨hk.1.1.2, hk.1.2⟩⟩)⟩
          have n3_ : Aside0 (Kd.V k27 27 ((w111.setCell ⟨gb522, 0, none⟩ (.slice Ao112 t515.length co112)).setCell ⟨gb522, 1, none⟩ (.slice Ao116 t518.length co116)) w.heap.size (fun k_ => k_ ≠ gb503 ∧ k_ ≠ gb514 ∧ k_ ≠ gb522) (.slice Ao116 t518.length co116) t518) := ⟨by (with_reducible repeat (first | apply Kd.V_alloc | apply Kd.V_drewN | apply Kd.V_drew)); exact Kd.V_mono (Kd.V_far (p := ⟨gb522, 1, none⟩) (Kd.V_far (p := ⟨gb522, 0, none⟩) (Kd.V_mono HO520.out (fun k_ hk => (⟨hk, hk.2⟩ : _ ∧ k_ ≠ gb522))) (fun _ hk => hk.2) (.slice Ao112 t515.length co112)) (fun _ hk => hk.2) (.slice Ao116 t518.length co116)) (fun _ hk => ⟨hk.1.1.1, ⟨hk.1.1.2, hk.1.2⟩⟩)⟩
          have n4_ : Aside0 (((w111.setCell ⟨gb522, 0, none⟩ (.slice Ao112 t515.length co112)).setCell ⟨gb522, 1, none⟩ (.slice Ao116 t518.length co116)).heap[gb503]? = some (.cells #[.slice A0_0 l0_0.length c0_0, .slice A0_1 l0_1.length c0_1] 25 (0, 0))) := ⟨by (with_reducible repeat (first | apply xN_ | apply xD_ | apply xA_)); refine xR_ ?_ NB503_522.out _; refine xR_ ?_ NB503_522.out _; (with_reducible repeat (first | apply xN_ | apply xD_ | apply xA_)); exact BK503.out⟩
          have n5_ : Aside0 (((w111.setCell ⟨gb522, 0, none⟩ (.slice Ao112 t515.length co112)).setCell ⟨gb522, 1, none⟩ (.slice Ao116 t518.length co116)).heap[gb514]? = some (.cells #[.slice Ao104 t507.length co104, .slice Ao107 t510.length co107] 25 (0, 0))) := ⟨by (with_reducible repeat (first | apply xN_ | apply xD_ | apply xA_)); refine xR_ ?_ NB514_522.out _; refine xR_ ?_ NB514_522.out _; (with_reducible repeat (first | apply xN_ | apply xD_ | apply xA_)); exact BK514.out⟩
          have n6_ : Aside0 (((w111.setCell ⟨gb522, 0, none⟩ (.slice Ao112 t515.length co112)).setCell ⟨gb522, 1, none⟩ (.slice Ao116 t518.length co116)).heap[gb522]? = some (.cells #[.slice Ao112 t515.length co112, .slice Ao116 t518.length co116] 25 (0, 0))) := ⟨by (with_reducible repeat (first | apply xN_ | apply xD_ | apply xA_)); refine blk_put (cs := #[.slice Ao112 t515.length co112, .slice none 0 0]) ?_ 1 _ rfl; refine blk_put (cs := #[.slice none 0 0, .slice none 0 0]) ?_ 0 _ rfl; (with_reducible repeat (first | apply xN_ | apply xD_ | apply xA_)); exact BK522.out⟩
          have n7_ : Aside0 (Below w.heap.size w ((w111.setCell ⟨gb522, 0, none⟩ (.slice Ao112 t515.length co112)).setCell ⟨gb522, 1, none⟩ (.slice Ao116 t518.length co116))) := ⟨by repeat (first | (with_reducible first | exact HB.out | apply yA_ | apply yN_ | apply yD_ | refine yS_ ?_ GE503.out | refine yS_ ?_ GE514.out | refine yS_ ?_ GE522.out) | exact HB.out)⟩
          (try clear HO509)
          (try clear HO512)
          (try clear HO517)
          (try clear HO520)
          (try clear BK503)
          (try clear BK514)
          (try clear BK522)
          (try clear HB)
          generalize ((w111.setCell ⟨gb522, 0, none⟩ (.slice Ao112 t515.length co112)).setCell ⟨gb522, 1, none⟩ (.slice Ao116 t518.length co116)) = w117 at n0_ n1_ n2_ n3_ n4_ n5_ n6_ n7_ ⊢
          have HO509 := n0_
          have HO512 := n1_
          have HO517 := n2_
          have HO520 := n3_
          have BK503 := n4_
          have BK514 := n5_
          have BK522 := n6_
          have HB := n7_
          clear n0_ n1_ n2_ n3_ n4_ n5_ n6_ n7_
          replace HO509 := Aside0.mk (Kd.V_drew HO509.out)
          replace HO512 := Aside0.mk (Kd.V_drew HO512.out)
          replace HO517 := Aside0.mk (Kd.V_drew HO517.out)
          replace HO520 := Aside0.mk (Kd.V_drew HO520.out)
          replace BK503 := Aside0.mk (xD_ BK503.out)
          replace BK514 := Aside0.mk (xD_ BK514.out)
          replace BK522 := Aside0.mk (xD_ BK522.out)
          replace HB := Aside0.mk (yD_ HB.out)
          have q119 : (a2 : Int) ≤ ((l1.length : Int) : Int) := of_decide_eq_true (by first | (with_reducible assumption) | assumption)
          obtain ⟨i0119, hi0119, _, hsz119, _⟩ := info_parts info49
          have hroom119 : l1.length ≤ c1 := HC1.out
          have hC119 : Kd.C k49 _ A1 l1.length l1 := HR1.out
          have q0119 : (0 : Int) ≤ (a2 : Int) := of_decide_eq_true (by first | (with_reducible assumption) | assumption)
          have hcut119 := cut_from (P := Try.prog) 44 49 .i64 Try.underlying44 hi0119 3 hsz119 A1 l1.length c1 a2 q0119 q119
          have hr119 := Kd.C_drop (m := (a2 : Int).toNat) (c := c1) hC119 (by omega) hroom119
          obtain ⟨A119, hA119⟩ : ∃ Az_, Az_ = (if c1 = (a2 : Int).toNat then A1 else (A1 : Option Addr).map (·.add ((a2 : Int).toNat * 3))) := ⟨_, rfl⟩
          obtain ⟨c119, hc119⟩ : ∃ cz_, cz_ = c1 - (a2 : Int).toNat := ⟨_, rfl⟩
          have hy119 : y523.length = l1.length - (a2 : Int).toNat := (by rw [Ny523.out, List.length_drop] <;> omega)
          rw [show (l1).drop (a2 : Int).toNat = y523 from Ny523.out.symm] at hr119
          replace hr119 : Kd.C k49 _ A119 y523.length y523 := (by rw [hA119]; exact hr119)
          rw [← hy119, ← hA119, ← hc119] at hcut119
          have HR526 := Aside0.mk hr119
          have HC526 := Aside0.mk (show y523.length ≤ c119 from by rw [hy119, hc119]; exact Nat.sub_le_sub_right hroom119 _)
          clear hr119 hC119 hroom119 hi0119 hsz119 hc119
          have KY119 := Aside0.mk hy119
          have KA119 := Aside0.mk hA119
          clear hy119 hA119
          replace q119 := eq_true q119
          refine start_ (n := 15) (S := fun w' => w'.cell? ⟨gb522, 0, none⟩ = some (.slice Ao112 t515.length co112) ∧ w'.cell? ⟨gb522, 1, none⟩ = some (.slice Ao116 t518.length co116)) (ds := []) #[false, false, false, false, false, false, false, false, false, false, false, false, false, false, false] (by kernel_rfl) rfl rfl ⟨(xC_ BK522.out 0).trans rfl, (xC_ BK522.out 1).trans rfl⟩ (fun hHeld => ?_); refine with_tabW armadalaw01_DiskParts.tab5 armadalaw01_DiskParts.bits5 (fun HT_ HW_ => ?_)
          generalize w117.drew = w118 at HO509 HO512 HO517 HO520 BK503 BK514 BK522 HB HR526 hHeld ⊢
          refine pure_ (i := 1) (N := some 53) (v := ?_) (a' := ?_) #[false, true, false, false, false, false, false, false, false, false, false, false, false, false, false] rfl rfl (any_of HT_.out (by kernel_rfl)) (fun _ _ _ h => h) (Or.inl ⟨by rfl, ?_⟩) ?_ ?_
          rotate_left
          ·intro w'
           go_simp
           with_reducible rfl
          rotate_left
          ·simp only [Act.put, List.setIfInBounds_toArray, List.set_cons_zero, List.set_cons_succ, i64_w, i32_w]
           rfl
          refine pure_ (i := 2) (N := some 54) (v := ?_) (a' := ?_) #[false, true, true, false, false, false, false, false, false, false, false, false, false, false, false] rfl rfl (any_of HT_.out (by kernel_rfl)) (fun _ _ _ h => h) (Or.inl ⟨by rfl, ?_⟩) ?_ ?_
          rotate_left
          ·intro w'
           go_simp
           with_reducible rfl
          rotate_left
          ·simp only [Act.put, List.setIfInBounds_toArray, List.set_cons_zero, List.set_cons_succ, i64_w, i32_w]
           rfl
          refine pure_ (i := 3) (N := some 55) (v := ?_) (a' := ?_) #[false, true, true, true, false, false, false, false, false, false, false, false, false, false, false] rfl rfl (any_of HT_.out (by kernel_rfl)) (fun _ _ _ h => h) (Or.inl ⟨by rfl, ?_⟩) ?_ ?_
          rotate_left
          ·intro w'
           go_simp
           with_reducible rfl
          rotate_left
          ·simp only [Act.put, List.setIfInBounds_toArray, List.set_cons_zero, List.set_cons_succ, i64_w, i32_w]
           rfl
          refine pure_ (i := 4) (N := some 56) (v := ?_) (a' := ?_) #[false, true, true, true, true, false, false, false, false, false, false, false, false, false, false] rfl rfl (any_of HT_.out (by kernel_rfl)) (fun _ _ _ h => h) (Or.inl ⟨by rfl, ?_⟩) ?_ ?_
          rotate_left
          ·intro w'
           go_simp
           with_reducible rfl
          rotate_left
          ·simp only [Act.put, List.setIfInBounds_toArray, List.set_cons_zero, List.set_cons_succ, i64_w, i32_w]
           rfl
          refine pure_ (i := 5) (N := some 57) (v := ?_) (a' := ?_) #[false, true, true, true, true, true, false, false, false, false, false, false, false, false, false] rfl rfl (any_of HT_.out (by kernel_rfl)) (fun _ _ _ h => h) (Or.inl ⟨by rfl, ?_⟩) ?_ ?_
          rotate_left
          ·intro w'
           go_simp
           with_reducible rfl
          rotate_left
          ·simp only [Act.put, List.setIfInBounds_toArray, List.set_cons_zero, List.set_cons_succ, i64_w, i32_w]
           rfl
          refine pure_ (i := 6) (N := some 58) (v := ?_) (a' := ?_) #[false, true, true, true, true, true, true, false, false, false, false, false, false, false, false] rfl rfl (any_of HT_.out (by kernel_rfl)) (fun _ _ _ h => h) (Or.inl ⟨by rfl, ?_⟩) ?_ ?_
          rotate_left
          ·intro w'
           go_simp
           with_reducible rfl
          rotate_left
          ·simp only [Act.put, List.setIfInBounds_toArray, List.set_cons_zero, List.set_cons_succ, i64_w, i32_w]
           rfl
          refine pure_ (i := 7) (N := some 59) (v := ?_) (a' := ?_) #[false, true, true, true, true, true, true, true, false, false, false, false, false, false, false] rfl rfl (any_of HT_.out (by kernel_rfl)) (fun _ _ _ h => h) (Or.inl ⟨by rfl, ?_⟩) ?_ ?_
          rotate_left
          ·intro w'
           go_simp
           with_reducible rfl
          rotate_left
          ·simp only [Act.put, List.setIfInBounds_toArray, List.set_cons_zero, List.set_cons_succ, i64_w, i32_w]
           rfl
          refine take_ (i := 0) (N := some 52) (v := ?_) (a' := ?_) #[true, true, true, true, true, true, true, true, false, false, false, false, false, false, false] rfl rfl (take_ofW HT_.out HW_.out (by kernel_rfl)) (fun _ _ _ h => h) (Or.inl ⟨by rfl, ?_⟩) hHeld ?_ ?_
          rotate_left
          ·rintro w' ⟨s0, s1⟩
           go_simp
           with_reducible rfl
          rotate_left
          ·simp only [Act.put, List.setIfInBounds_toArray, List.set_cons_zero, List.set_cons_succ, i64_w, i32_w]
           rfl
          refine join_ (σ := Value × Value × Nat) 2 #[true, true, true, true, true, true, true, true, true, true, true, true, true, false, false] (fun s_ => [(60, .tuple #[.agg #[s_.1, s_.2.1], .int .i64 t533]), (11, .pointer (some ⟨s_.2.2, 0, none⟩)), (51, .tuple #[.agg #[s_.1, s_.2.1], .int .i64 t533]), (61, .agg #[s_.1, s_.2.1]), (62, .int .i64 t533)]) (fun s_ w' => (w'.cell? ⟨gb522, 0, none⟩ = some (.slice Ao112 t515.length co112) ∧ w'.cell? ⟨gb522, 1, none⟩ = some (.slice Ao116 t518.length co116)) ∧ (Kd.V Kd.string 9 w' w.heap.size (fun k_ => k_ ≠ gb503 ∧ k_ ≠ gb514 ∧ k_ ≠ gb522 ∧ k_ ≠ s_.2.2) (.slice Ao104 t507.length co104) t507) ∧ (Kd.V k27 27 w' w.heap.size (fun k_ => k_ ≠ gb503 ∧ k_ ≠ gb514 ∧ k_ ≠ gb522 ∧ k_ ≠ s_.2.2) (.slice Ao107 t510.length co107) t510) ∧ (Kd.V Kd.string 9 w' w.heap.size (fun k_ => k_ ≠ gb503 ∧ k_ ≠ gb514 ∧ k_ ≠ gb522 ∧ k_ ≠ s_.2.2) (.slice Ao112 t515.length co112) t515) ∧ (Kd.V k27 27 w' w.heap.size (fun k_ => k_ ≠ gb503 ∧ k_ ≠ gb514 ∧ k_ ≠ gb522 ∧ k_ ≠ s_.2.2) (.slice Ao116 t518.length co116) t518) ∧ (Kd.V Kd.string 9 w' w.heap.size (fun k_ => k_ ≠ gb503 ∧ k_ ≠ gb514 ∧ k_ ≠ gb522 ∧ k_ ≠ s_.2.2) s_.1 t527) ∧ (Kd.V k27 27 w' w.heap.size (fun k_ => k_ ≠ gb503 ∧ k_ ≠ gb514 ∧ k_ ≠ gb522 ∧ k_ ≠ s_.2.2) s_.2.1 t530) ∧ (w'.heap[gb503]? = some (.cells #[.slice A0_0 l0_0.length c0_0, .slice A0_1 l0_1.length c0_1] 25 (0, 0))) ∧ (w'.heap[gb514]? = some (.cells #[.slice Ao104 t507.length co104, .slice Ao107 t510.length co107] 25 (0, 0))) ∧ (w'.heap[gb522]? = some (.cells #[.slice Ao112 t515.length co112, .slice Ao116 t518.length co116] 25 (0, 0))) ∧ (w'.heap[s_.2.2]? = some (.cells #[.slice none 0 0, .slice none 0 0] 25 (0, 0))) ∧ (w.heap.size ≤ s_.2.2) ∧ (w.heap.size ≤ s_.2.2) ∧ (gb503 ≠ s_.2.2) ∧ (s_.2.2 ≠ gb503) ∧ (gb514 ≠ s_.2.2) ∧ (s_.2.2 ≠ gb514) ∧ (gb522 ≠ s_.2.2) ∧ (s_.2.2 ≠ gb522) ∧ (Below w.heap.size w w')) ?_ ?_
          rotate_left
          ·intro hCont
           refine two_ (i := 8) (j := 12) (Ni := some 60) (Nj := some 11) #[true, true, true, true, true, true, true, true, true, false, false, false, false, false, false] #[true, true, true, true, true, true, true, true, false, false, false, false, true, false, false] rfl rfl rfl rfl (two_of HT_.out (by kernel_rfl)) (by decide) (by decide) (fun K hK => ?_) (fun K hK => ?_)
           ·skip
            refine goes_ Try.func26 (by kernel_rfl) rfl #[.agg #[.slice Ao112 t515.length co112, .slice Ao116 t518.length co116], .slice A119 y523.length c119, .int .i64 (wrap64 ((l1.length : Int) - a2))] (by rfl) rfl rfl (by (try simp only [List.map_toArray, List.map_cons, List.map_nil]); first | done | rfl) ?_
            with_reducible refine (disk_Run.calls kj3 (fun k_ => (k_ ≠ gb503 ∧ (k_ ≠ gb514 ∧ k_ ≠ gb522))) _ _ t515 (fun k_ => (k_ ≠ gb503 ∧ (k_ ≠ gb514 ∧ k_ ≠ gb522))) _ _ t518 _ _ y523 (wrap64 ((l1.length : Int) - a2)) t527 t530 t533 _ ?side1 ?side2 ?side3 ?side4 A26.out).mono ?_
            (case side1 => exact HO517.out)
            (case side2 => exact HO520.out)
            (case side3 => repeat (first | exact (Kd.C_below HR526.out HB.out) | (with_reducible refine Kd.C_alloc ?_ _) | (with_reducible refine Kd.C_drewN ?_ _) | (with_reducible refine Kd.C_drew ?_)))
            (case side4 => exact HC526.out)
            rintro e w120 ⟨v528, v531, rfl, ho0, ho1, hb⟩
            refine ⟨_, rfl, ?_⟩
            have hz_ := zq HB (by repeat (first | (with_reducible first | exact Below.refl _ _ | apply yA_ | apply yN_ | apply yD_) | exact Below.refl _ _)) hb
            replace hb := below_step hz_ hb
            replace HO509 := zV HO509 hb
            replace HO512 := zV HO512 hb
            replace HO517 := zV HO517 hb
            replace HO520 := zV HO520 hb
            have HO529 := Aside0.mk (Kd.V_lower (Kd.V_mono (ok' := fun k_ => k_ ≠ gb503 ∧ k_ ≠ gb514 ∧ k_ ≠ gb522) ho0 (fun k_ hk_ => ⟨Or.elim hk_ (fun hs_ => Or.elim hs_ (fun hs_ => hs_.1) (fun hs_ => hs_.1)) (zf BK503 hz_ k_), Or.elim hk_ (fun hs_ => Or.elim hs_ (fun hs_ => hs_.2.1) (fun hs_ => hs_.2.1)) (zf BK514 hz_ k_), Or.elim hk_ (fun hs_ => Or.elim hs_ (fun hs_ => hs_.2.2) (fun hs_ => hs_.2.2)) (zf BK522 hz_ k_)⟩)) (zs HB hz_))
            have HO532 := Aside0.mk (Kd.V_lower (Kd.V_mono (ok' := fun k_ => k_ ≠ gb503 ∧ k_ ≠ gb514 ∧ k_ ≠ gb522) ho1 (fun k_ hk_ => ⟨Or.elim hk_ (fun hs_ => Or.elim hs_ (fun hs_ => hs_.1) (fun hs_ => hs_.1)) (zf BK503 hz_ k_), Or.elim hk_ (fun hs_ => Or.elim hs_ (fun hs_ => hs_.2.1) (fun hs_ => hs_.2.1)) (zf BK514 hz_ k_), Or.elim hk_ (fun hs_ => Or.elim hs_ (fun hs_ => hs_.2.2) (fun hs_ => hs_.2.2)) (zf BK522 hz_ k_)⟩)) (zs HB hz_))
            replace BK503 := zB BK503 hb
            replace BK514 := zB BK514 hb
            replace BK522 := zB BK522 hb
            replace HB := zH HB hb
            clear hz_
            (try clear hb)
            (try clear hb2)
            (try clear hk)
            (try clear hi)
            (try clear ho0)
            (try clear ho1)
            refine hK.out _ _ ⟨(xC_ BK522.out 0).trans rfl, (xC_ BK522.out 1).trans rfl⟩ (fun hHeld => ?_)
            clear hK K
            refine norm_ (a' := ?_) ?_ ?_
            rotate_left
            ·show Act.put _ (some 60) _ = _
             simp only [Act.put, List.setIfInBounds_toArray, List.set_cons_zero, List.set_cons_succ, i64_w, i32_w]
             rfl
            refine pure_ (i := 9) (N := some 51) (v := ?_) (a' := ?_) #[true, true, true, true, true, true, true, true, true, true, false, false, false, false, false] rfl rfl (any_of HT_.out (by kernel_rfl)) (fun _ _ _ h => h) (Or.inl ⟨by rfl, ?_⟩) ?_ ?_
            rotate_left
            ·intro w'
             go_simp
             with_reducible rfl
            rotate_left
            ·simp only [Act.put, List.setIfInBounds_toArray, List.set_cons_zero, List.set_cons_succ, i64_w, i32_w]
             rfl
            refine pure_ (i := 10) (N := some 61) (v := ?_) (a' := ?_) #[true, true, true, true, true, true, true, true, true, true, true, false, false, false, false] rfl rfl (any_of HT_.out (by kernel_rfl)) (fun _ _ _ h => h) (Or.inl ⟨by rfl, ?_⟩) ?_ ?_
            rotate_left
            ·intro w'
             go_simp
             with_reducible rfl
            rotate_left
            ·simp only [Act.put, List.setIfInBounds_toArray, List.set_cons_zero, List.set_cons_succ, i64_w, i32_w]
             rfl
            refine pure_ (i := 11) (N := some 62) (v := ?_) (a' := ?_) #[true, true, true, true, true, true, true, true, true, true, true, true, false, false, false] rfl rfl (any_of HT_.out (by kernel_rfl)) (fun _ _ _ h => h) (Or.inl ⟨by rfl, ?_⟩) ?_ ?_
            rotate_left
            ·intro w'
             go_simp
             with_reducible rfl
            rotate_left
            ·simp only [Act.put, List.setIfInBounds_toArray, List.set_cons_zero, List.set_cons_succ, i64_w, i32_w]
             rfl
            refine one_ (i := 12) (N := some 11) #[true, true, true, true, true, true, true, true, true, true, true, true, true, false, false] rfl rfl (one_of HT_.out (by kernel_rfl)) (by decide) (fun K hK => ?_)
            refine box_step ?hg (N := 11) ?hd (cs := #[.slice none 0 0, .slice none 0 0]) (t := 25) ?hr ?_; (case hd => rfl); (case hg => rfl); (case hr => first | (go_simp; done) | (go_simp; rfl))
            intro gb534 hg w121 hbox hb
            have hz_ := zq HB (by repeat (first | (with_reducible first | exact Below.refl _ _ | apply yA_ | apply yN_ | apply yD_) | exact Below.refl _ _)) hb
            replace hb := below_step hz_ hb
            replace HO509 := zE HO509 hz_ hg hb
            replace HO512 := zE HO512 hz_ hg hb
            replace HO517 := zE HO517 hz_ hg hb
            replace HO520 := zE HO520 hz_ hg hb
            replace HO529 := zE HO529 hz_ hg hb
            replace HO532 := zE HO532 hz_ hg hb
            have BK534 := Aside0.mk hbox
            have GW534 := zG HB hz_ hg
            have GE534 := zG HB hz_ hg
            have NB503_534 := zN BK503 hz_ hg
            have NB534_503 := zM BK503 hz_ hg
            have NB514_534 := zN BK514 hz_ hg
            have NB534_514 := zM BK514 hz_ hg
            have NB522_534 := zN BK522 hz_ hg
            have NB534_522 := zM BK522 hz_ hg
            replace BK503 := zB BK503 hb
            replace BK514 := zB BK514 hb
            replace BK522 := zB BK522 hb
            replace HB := zH HB hb
            clear hz_
            clear hb hbox hg
            refine hK.out _ _ ⟨(xC_ BK522.out 0).trans rfl, (xC_ BK522.out 1).trans rfl⟩ (fun hHeld => ?_)
            clear hK K
            refine norm_ (a' := ?_) ?_ ?_
            rotate_left
            ·show Act.put _ (some 11) _ = _
             simp only [Act.put, List.setIfInBounds_toArray, List.set_cons_zero, List.set_cons_succ, i64_w, i32_w]
             rfl
            exact norm_ (by simp only [putAll, Act.put, List.setIfInBounds_toArray, List.set_cons_zero, List.set_cons_succ]) (hCont (v528, v531, gb534) _ ⟨hHeld, (by (with_reducible repeat (first | apply Kd.V_alloc | apply Kd.V_drewN | apply Kd.V_drew)); exact Kd.V_mono HO509.out (fun _ hk => ⟨hk.1.1, ⟨hk.1.2.1, ⟨hk.1.2.2, hk.2⟩⟩⟩)), (by (with_reducible repeat (first | apply Kd.V_alloc | apply Kd.V_drewN | apply Kd.V_drew)); exact Kd.V_mono HO512.out (fun _ hk => ⟨hk.1.1, ⟨hk.1.2.1, ⟨hk.1.2.2, hk.2⟩⟩⟩)), (by (with_reducible repeat (first | apply Kd.V_alloc | apply Kd.V_drewN | apply Kd.V_drew)); exact Kd.V_mono HO517.out (fun _ hk => ⟨hk.1.1, ⟨hk.1.2.1, ⟨hk.1.2.2, hk.2⟩⟩⟩)), (by (with_reducible repeat (first | apply Kd.V_alloc | apply Kd.V_drewN | apply Kd.V_drew)); exact Kd.V_mono HO520.out (fun _ hk => ⟨hk.1.1, ⟨hk.1.2.1, ⟨hk.1.2.2, hk.2⟩⟩⟩)), (by (with_reducible repeat (first | apply Kd.V_alloc | apply Kd.V_drewN | apply Kd.V_drew)); exact Kd.V_mono HO529.out (fun _ hk => ⟨hk.1.1, ⟨hk.1.2.1, ⟨hk.1.2.2, hk.2⟩⟩⟩)), (by (with_reducible repeat (first | apply Kd.V_alloc | apply Kd.V_drewN | apply Kd.V_drew)); exact Kd.V_mono HO532.out (fun _ hk => ⟨hk.1.1, ⟨hk.1.2.1, ⟨hk.1.2.2, hk.2⟩⟩⟩)), (by (with_reducible repeat (first | apply xN_ | apply xD_ | apply xA_)); exact BK503.out), (by (with_reducible repeat (first | apply xN_ | apply xD_ | apply xA_)); exact BK514.out), (by (with_reducible repeat (first | apply xN_ | apply xD_ | apply xA_)); exact BK522.out), (by (with_reducible repeat (first | apply xN_ | apply xD_ | apply xA_)); exact BK534.out), GW534.out, GE534.out, NB503_534.out, NB534_503.out, NB514_534.out, NB534_514.out, NB522_534.out, NB534_522.out, (by repeat (first | (with_reducible first | exact HB.out | apply yA_ | apply yN_ | apply yD_ | refine yS_ ?_ GE503.out | refine yS_ ?_ GE514.out | refine yS_ ?_ GE522.out | refine yS_ ?_ GE534.out) | exact HB.out))⟩)
           ·skip
            refine box_step ?hg (N := 11) ?hd (cs := #[.slice none 0 0, .slice none 0 0]) (t := 25) ?hr ?_; (case hd => rfl); (case hg => rfl); (case hr => first | (go_simp; done) | (go_simp; rfl))
            intro gb534 hg w120 hbox hb
            have hz_ := zq HB (by repeat (first | (with_reducible first | exact Below.refl _ _ | apply yA_ | apply yN_ | apply yD_) | exact Below.refl _ _)) hb
            replace hb := below_step hz_ hb
            replace HO509 := zE HO509 hz_ hg hb
            replace HO512 := zE HO512 hz_ hg hb
            replace HO517 := zE HO517 hz_ hg hb
            replace HO520 := zE HO520 hz_ hg hb
            have BK534 := Aside0.mk hbox
            have GW534 := zG HB hz_ hg
            have GE534 := zG HB hz_ hg
            have NB503_534 := zN BK503 hz_ hg
            have NB534_503 := zM BK503 hz_ hg
            have NB514_534 := zN BK514 hz_ hg
            have NB534_514 := zM BK514 hz_ hg
            have NB522_534 := zN BK522 hz_ hg
            have NB534_522 := zM BK522 hz_ hg
            replace BK503 := zB BK503 hb
            replace BK514 := zB BK514 hb
            replace BK522 := zB BK522 hb
            replace HB := zH HB hb
            clear hz_
            clear hb hbox hg
            refine hK.out _ _ ⟨(xC_ BK522.out 0).trans rfl, (xC_ BK522.out 1).trans rfl⟩ (fun hHeld => ?_)
            clear hK K
            refine norm_ (a' := ?_) ?_ ?_
            rotate_left
            ·show Act.put _ (some 11) _ = _
             simp only [Act.put, List.setIfInBounds_toArray, List.set_cons_zero, List.set_cons_succ, i64_w, i32_w]
             rfl
            refine one_ (i := 8) (N := some 60) #[true, true, true, true, true, true, true, true, true, false, false, false, true, false, false] rfl rfl (one_of HT_.out (by kernel_rfl)) (by decide) (fun K hK => ?_)
            refine goes_ Try.func26 (by kernel_rfl) rfl #[.agg #[.slice Ao112 t515.length co112, .slice Ao116 t518.length co116], .slice A119 y523.length c119, .int .i64 (wrap64 ((l1.length : Int) - a2))] (by rfl) rfl rfl (by (try simp only [List.map_toArray, List.map_cons, List.map_nil]); first | done | rfl) ?_
            with_reducible refine (disk_Run.calls kj3 (fun k_ => ((k_ ≠ gb503 ∧ (k_ ≠ gb514 ∧ k_ ≠ gb522)) ∧ k_ ≠ gb534)) _ _ t515 (fun k_ => ((k_ ≠ gb503 ∧ (k_ ≠ gb514 ∧ k_ ≠ gb522)) ∧ k_ ≠ gb534)) _ _ t518 _ _ y523 (wrap64 ((l1.length : Int) - a2)) t527 t530 t533 _ ?side1 ?side2 ?side3 ?side4 A26.out).mono ?_
            (case side1 => exact HO517.out)
            (case side2 => exact HO520.out)
            (case side3 => repeat (first | exact (Kd.C_below HR526.out HB.out) | (with_reducible refine Kd.C_alloc ?_ _) | (with_reducible refine Kd.C_drewN ?_ _) | (with_reducible refine Kd.C_drew ?_)))
            (case side4 => exact HC526.out)
            rintro e w121 ⟨v528, v531, rfl, ho0, ho1, hb⟩
            refine ⟨_, rfl, ?_⟩
            have hz_ := zq HB (by repeat (first | (with_reducible first | exact Below.refl _ _ | apply yA_ | apply yN_ | apply yD_) | exact Below.refl _ _)) hb
            replace hb := below_step hz_ hb
            replace HO509 := zV HO509 hb
            replace HO512 := zV HO512 hb
            replace HO517 := zV HO517 hb
            replace HO520 := zV HO520 hb
            have HO529 := Aside0.mk (Kd.V_lower (Kd.V_mono (ok' := fun k_ => k_ ≠ gb503 ∧ k_ ≠ gb514 ∧ k_ ≠ gb522 ∧ k_ ≠ gb534) ho0 (fun k_ hk_ => ⟨Or.elim hk_ (fun hs_ => Or.elim hs_ (fun hs_ => hs_.1.1) (fun hs_ => hs_.1.1)) (zf BK503 hz_ k_), Or.elim hk_ (fun hs_ => Or.elim hs_ (fun hs_ => hs_.1.2.1) (fun hs_ => hs_.1.2.1)) (zf BK514 hz_ k_), Or.elim hk_ (fun hs_ => Or.elim hs_ (fun hs_ => hs_.1.2.2) (fun hs_ => hs_.1.2.2)) (zf BK522 hz_ k_), Or.elim hk_ (fun hs_ => Or.elim hs_ (fun hs_ => hs_.2) (fun hs_ => hs_.2)) (zf BK534 hz_ k_)⟩)) (zs HB hz_))
            have HO532 := Aside0.mk (Kd.V_lower (Kd.V_mono (ok' := fun k_ => k_ ≠ gb503 ∧ k_ ≠ gb514 ∧ k_ ≠ gb522 ∧ k_ ≠ gb534) ho1 (fun k_ hk_ => ⟨Or.elim hk_ (fun hs_ => Or.elim hs_ (fun hs_ => hs_.1.1) (fun hs_ => hs_.1.1)) (zf BK503 hz_ k_), Or.elim hk_ (fun hs_ => Or.elim hs_ (fun hs_ => hs_.1.2.1) (fun hs_ => hs_.1.2.1)) (zf BK514 hz_ k_), Or.elim hk_ (fun hs_ => Or.elim hs_ (fun hs_ => hs_.1.2.2) (fun hs_ => hs_.1.2.2)) (zf BK522 hz_ k_), Or.elim hk_ (fun hs_ => Or.elim hs_ (fun hs_ => hs_.2) (fun hs_ => hs_.2)) (zf BK534 hz_ k_)⟩)) (zs HB hz_))
            replace BK503 := zB BK503 hb
            replace BK514 := zB BK514 hb
            replace BK522 := zB BK522 hb
            replace BK534 := zB BK534 hb
            replace HB := zH HB hb
            clear hz_
            (try clear hb)
            (try clear hb2)
            (try clear hk)
            (try clear hi)
            (try clear ho0)
            (try clear ho1)
            refine hK.out _ _ ⟨(xC_ BK522.out 0).trans rfl, (xC_ BK522.out 1).trans rfl⟩ (fun hHeld => ?_)
            clear hK K
            refine norm_ (a' := ?_) ?_ ?_
            rotate_left
            ·show Act.put _ (some 60) _ = _
             simp only [Act.put, List.setIfInBounds_toArray, List.set_cons_zero, List.set_cons_succ, i64_w, i32_w]
             rfl
            refine pure_ (i := 9) (N := some 51) (v := ?_) (a' := ?_) #[true, true, true, true, true, true, true, true, true, true, false, false, true, false, false] rfl rfl (any_of HT_.out (by kernel_rfl)) (fun _ _ _ h => h) (Or.inl ⟨by rfl, ?_⟩) ?_ ?_
            rotate_left
            ·intro w'
             go_simp
             with_reducible rfl
            rotate_left
            ·simp only [Act.put, List.setIfInBounds_toArray, List.set_cons_zero, List.set_cons_succ, i64_w, i32_w]
             rfl
            refine pure_ (i := 10) (N := some 61) (v := ?_) (a' := ?_) #[true, true, true, true, true, true, true, true, true, true, true, false, true, false, false] rfl rfl (any_of HT_.out (by kernel_rfl)) (fun _ _ _ h => h) (Or.inl ⟨by rfl, ?_⟩) ?_ ?_
            rotate_left
            ·intro w'
             go_simp
             with_reducible rfl
            rotate_left
            ·simp only [Act.put, List.setIfInBounds_toArray, List.set_cons_zero, List.set_cons_succ, i64_w, i32_w]
             rfl
            refine pure_ (i := 11) (N := some 62) (v := ?_) (a' := ?_) #[true, true, true, true, true, true, true, true, true, true, true, true, true, false, false] rfl rfl (any_of HT_.out (by kernel_rfl)) (fun _ _ _ h => h) (Or.inl ⟨by rfl, ?_⟩) ?_ ?_
            rotate_left
            ·intro w'
             go_simp
             with_reducible rfl
            rotate_left
            ·simp only [Act.put, List.setIfInBounds_toArray, List.set_cons_zero, List.set_cons_succ, i64_w, i32_w]
             rfl
            exact norm_ (by simp only [putAll, Act.put, List.setIfInBounds_toArray, List.set_cons_zero, List.set_cons_succ]) (hCont (v528, v531, gb534) _ ⟨hHeld, (by (with_reducible repeat (first | apply Kd.V_alloc | apply Kd.V_drewN | apply Kd.V_drew)); exact Kd.V_mono HO509.out (fun _ hk => ⟨hk.1.1, ⟨hk.1.2.1, ⟨hk.1.2.2, hk.2⟩⟩⟩)), (by (with_reducible repeat (first | apply Kd.V_alloc | apply Kd.V_drewN | apply Kd.V_drew)); exact Kd.V_mono HO512.out (fun _ hk => ⟨hk.1.1, ⟨hk.1.2.1, ⟨hk.1.2.2, hk.2⟩⟩⟩)), (by (with_reducible repeat (first | apply Kd.V_alloc | apply Kd.V_drewN | apply Kd.V_drew)); exact Kd.V_mono HO517.out (fun _ hk => ⟨hk.1.1, ⟨hk.1.2.1, ⟨hk.1.2.2, hk.2⟩⟩⟩)), (by (with_reducible repeat (first | apply Kd.V_alloc | apply Kd.V_drewN | apply Kd.V_drew)); exact Kd.V_mono HO520.out (fun _ hk => ⟨hk.1.1, ⟨hk.1.2.1, ⟨hk.1.2.2, hk.2⟩⟩⟩)), (by (with_reducible repeat (first | apply Kd.V_alloc | apply Kd.V_drewN | apply Kd.V_drew)); exact HO529.out), (by (with_reducible repeat (first | apply Kd.V_alloc | apply Kd.V_drewN | apply Kd.V_drew)); exact HO532.out), (by (with_reducible repeat (first | apply xN_ | apply xD_ | apply xA_)); exact BK503.out), (by (with_reducible repeat (first | apply xN_ | apply xD_ | apply xA_)); exact BK514.out), (by (with_reducible repeat (first | apply xN_ | apply xD_ | apply xA_)); exact BK522.out), (by (with_reducible repeat (first | apply xN_ | apply xD_ | apply xA_)); exact BK534.out), GW534.out, GE534.out, NB503_534.out, NB534_503.out, NB514_534.out, NB534_514.out, NB522_534.out, NB534_522.out, (by repeat (first | (with_reducible first | exact HB.out | apply yA_ | apply yN_ | apply yD_ | refine yS_ ?_ GE503.out | refine yS_ ?_ GE514.out | refine yS_ ?_ GE522.out | refine yS_ ?_ GE534.out) | exact HB.out))⟩)
          rintro ⟨v528, v531, gb534⟩ w122 ⟨hS_, h0_, h1_, h2_, h3_, h4_, h5_, h6_, h7_, h8_, h9_, h10_, h11_, h12_, h13_, h14_, h15_, h16_, h17_, h18_⟩
          have n0_ : Aside0 (Kd.V Kd.string 9 w122 w.heap.size (fun k_ => k_ ≠ gb503 ∧ k_ ≠ gb514 ∧ k_ ≠ gb522 ∧ k_ ≠ gb534) (.slice Ao104 t507.length co104) t507) := ⟨h0_⟩
          have n1_ : Aside0 (Kd.V k27 27 w122 w.heap.size (fun k_ => k_ ≠ gb503 ∧ k_ ≠ gb514 ∧ k_ ≠ gb522 ∧ k_ ≠ gb534) (.slice Ao107 t510.length co107) t510) := ⟨h1_⟩
          have n2_ : Aside0 (Kd.V Kd.string 9 w122 w.heap.size (fun k_ => k_ ≠ gb503 ∧ k_ ≠ gb514 ∧ k_ ≠ gb522 ∧ k_ ≠ gb534) (.slice Ao112 t515.length co112) t515) := ⟨h2_⟩
          have n3_ : Aside0 (Kd.V k27 27 w122 w.heap.size (fun k_ => k_ ≠ gb503 ∧ k_ ≠ gb514 ∧ k_ ≠ gb522 ∧ k_ ≠ gb534) (.slice Ao116 t518.length co116) t518) := ⟨h3_⟩
          have n4_ : Aside0 (Kd.V Kd.string 9 w122 w.heap.size (fun k_ => k_ ≠ gb503 ∧ k_ ≠ gb514 ∧ k_ ≠ gb522 ∧ k_ ≠ gb534) v528 t527) := ⟨h4_⟩
          have n5_ : Aside0 (Kd.V k27 27 w122 w.heap.size (fun k_ => k_ ≠ gb503 ∧ k_ ≠ gb514 ∧ k_ ≠ gb522 ∧ k_ ≠ gb534) v531 t530) := ⟨h5_⟩
          have n6_ : Aside0 (w122.heap[gb503]? = some (.cells #[.slice A0_0 l0_0.length c0_0, .slice A0_1 l0_1.length c0_1] 25 (0, 0))) := ⟨h6_⟩
          have n7_ : Aside0 (w122.heap[gb514]? = some (.cells #[.slice Ao104 t507.length co104, .slice Ao107 t510.length co107] 25 (0, 0))) := ⟨h7_⟩
          have n8_ : Aside0 (w122.heap[gb522]? = some (.cells #[.slice Ao112 t515.length co112, .slice Ao116 t518.length co116] 25 (0, 0))) := ⟨h8_⟩
          have n9_ : Aside0 (w122.heap[gb534]? = some (.cells #[.slice none 0 0, .slice none 0 0] 25 (0, 0))) := ⟨h9_⟩
          have n10_ : Aside0 (w.heap.size ≤ gb534) := ⟨h10_⟩
          have n11_ : Aside0 (w.heap.size ≤ gb534) := ⟨h11_⟩
          have n12_ : Aside0 (gb503 ≠ gb534) := ⟨h12_⟩
          have n13_ : Aside0 (gb534 ≠ gb503) := ⟨h13_⟩
          have n14_ : Aside0 (gb514 ≠ gb534) := ⟨h14_⟩
          have n15_ : Aside0 (gb534 ≠ gb514) := ⟨h15_⟩
          have n16_ : Aside0 (gb522 ≠ gb534) := ⟨h16_⟩
          have n17_ : Aside0 (gb534 ≠ gb522) := ⟨h17_⟩
          have n18_ : Aside0 (Below w.heap.size w w122) := ⟨h18_⟩
          clear HO509
          clear HO512
          clear HO517
          clear HO520
          clear BK503
          clear BK514
          clear BK522
          clear HB
          clear h0_ h1_ h2_ h3_ h4_ h5_ h6_ h7_ h8_ h9_ h10_ h11_ h12_ h13_ h14_ h15_ h16_ h17_ h18_
          have HO509 := n0_
          have HO512 := n1_
          have HO517 := n2_
          have HO520 := n3_
          have HO529 := n4_
          have HO532 := n5_
          have BK503 := n6_
          have BK514 := n7_
          have BK522 := n8_
          have BK534 := n9_
          have GW534 := n10_
          have GE534 := n11_
          have NB503_534 := n12_
          have NB534_503 := n13_
          have NB514_534 := n14_
          have NB534_514 := n15_
          have NB522_534 := n16_
          have NB534_522 := n17_
          have HB := n18_
          clear n0_ n1_ n2_ n3_ n4_ n5_ n6_ n7_ n8_ n9_ n10_ n11_ n12_ n13_ n14_ n15_ n16_ n17_ n18_
          have hHeld : w122.cell? ⟨gb522, 0, none⟩ = some (.slice Ao112 t515.length co112) ∧ w122.cell? ⟨gb522, 1, none⟩ = some (.slice Ao116 t518.length co116) := hS_
          obtain ⟨Ao123, co123, eo123⟩ := Kd.V_slice HO529.out
          (first | subst eo123 | (injection eo123 with f1_ f2_ f3_; have f4_ := f1_.symm; have f5_ := f3_.symm; clear f1_ f2_ f3_; subst f4_; subst f5_))
          obtain ⟨Ao125, co125, eo125⟩ := Kd.V_slice HO532.out
          (first | subst eo125 | (injection eo125 with f1_ f2_ f3_; have f4_ := f1_.symm; have f5_ := f3_.symm; clear f1_ f2_ f3_; subst f4_; subst f5_))
          refine norm_ (a' := ?_) ?_ ?_
          rotate_left
          ·simp only [putAll, Act.put, List.setIfInBounds_toArray, List.set_cons_zero, List.set_cons_succ]
           rfl
          refine one_ (i := 13) (N := none) #[true, true, true, true, true, true, true, true, true, true, true, true, true, true, false] rfl rfl (one_of HT_.out (by kernel_rfl)) (by decide) (fun K hK => ?_)
          have hs124 : w122.cell? ⟨gb534, 0, none⟩ = some (.slice none 0 0) := (xC_ BK534.out 0).trans rfl
          have hfs124 := xF_ BK534.out 0
          have hns124_0 := NB503_534.out
          have hns124_1 := NB514_534.out
          have hns124_2 := NB522_534.out
          have hms124_0 := NB534_503.out
          have hms124_1 := NB534_514.out
          have hms124_2 := NB534_522.out
          have hs126 : w122.cell? ⟨gb534, 1, none⟩ = some (.slice none 0 0) := (xC_ BK534.out 1).trans rfl
          have hfs126 := xF_ BK534.out 1
          have hns126_0 := NB503_534.out
          have hns126_1 := NB514_534.out
          have hns126_2 := NB522_534.out
          have hms126_0 := NB534_503.out
          have hms126_1 := NB534_514.out
          have hms126_2 := NB534_522.out
          refine skip_ (w1 := ?_) (by rfl) rfl ?_ ?_
          rotate_left
          ·go_simp
           rfl
          refine hK.out _ _ ⟨((cell_far (p := ⟨gb534, _, none⟩) NB522_534.out _).trans (((cell_far (p := ⟨gb534, _, none⟩) NB522_534.out _).trans (hHeld.1)))), ((cell_far (p := ⟨gb534, _, none⟩) NB522_534.out _).trans (((cell_far (p := ⟨gb534, _, none⟩) NB522_534.out _).trans (hHeld.2))))⟩ (fun hHeld => ?_)
          clear hK K
          refine pure_ (i := 14) (N := some 12) (v := ?_) (a' := ?_) #[true, true, true, true, true, true, true, true, true, true, true, true, true, true, true] rfl rfl (any_of HT_.out (by kernel_rfl)) (fun _ _ _ h => h) (Or.inl ⟨by rfl, ?_⟩) ?_ ?_
          rotate_left
          ·intro w'
           go_simp
           with_reducible rfl
          rotate_left
          ·simp only [Act.put, List.setIfInBounds_toArray, List.set_cons_zero, List.set_cons_succ, i64_w, i32_w]
           rfl
          refine done_ (done_of HT_.out (by kernel_rfl)) ?_
          have hnb127 := NB514_534.out
          have hnc127 := NB534_514.out
          have hcz128_0 : w122.cell? ⟨gb514, 0, none⟩ = some (.slice Ao104 t507.length co104) := (xC_ BK514.out 0).trans rfl
          have hcz128_1 : w122.cell? ⟨gb514, 1, none⟩ = some (.slice Ao107 t510.length co107) := (xC_ BK514.out 1).trans rfl
          have hfz128_0 := xF_ BK514.out 0
          have hfz128_1 := xF_ BK514.out 1
          have hnb129 := NB503_534.out
          have hnc129 := NB534_503.out
          have hcz130_0 : w122.cell? ⟨gb503, 0, none⟩ = some (.slice A0_0 l0_0.length c0_0) := (xC_ BK503.out 0).trans rfl
          have hcz130_1 : w122.cell? ⟨gb503, 1, none⟩ = some (.slice A0_1 l0_1.length c0_1) := (xC_ BK503.out 1).trans rfl
          have hfz130_0 := xF_ BK503.out 0
          have hfz130_1 := xF_ BK503.out 1
          try go_wp2_with (first | (go_at_call 15; (with_reducible refine (armadaref01_Same.calls kj3 _ _ t507 _ _ t510 _ _ l0_0 _ _ l0_1 true _ ?side1 ?side2 ?side3 ?side4 ?side5 ?side6 ?side7 ?side8 A98.out).mono ?_); (case side1 => refine (Kd.V_reads' (e := 9) (base := w.heap.size) (ok := fun k_ => (k_ ≠ gb503 ∧ (k_ ≠ gb514 ∧ (k_ ≠ gb522 ∧ k_ ≠ gb534)))) (n := t507.length) (c := co104) ?_).2.2; exact (by (with_reducible repeat (first | apply Kd.V_alloc | apply Kd.V_drewN | apply Kd.V_drew)); exact (Kd.V_mono (Kd.V_far (p := ⟨gb534, 1, none⟩) (Kd.V_far (p := ⟨gb534, 0, none⟩) (Kd.V_mono HO509.out (fun k_ hk => (⟨hk, hk.2.2.2⟩ : _ ∧ k_ ≠ gb534))) (fun _ hk => hk.2) (.slice Ao123 t527.length co123)) (fun _ hk => hk.2) (.slice Ao125 t530.length co125)) (fun _ h_ => h_.1)))); (case side2 => exact (Kd.V_reads' HO509.out).2.1); (case side3 => refine (Kd.V_reads' (e := 27) (base := w.heap.size) (ok := fun k_ => (k_ ≠ gb503 ∧ (k_ ≠ gb514 ∧ (k_ ≠ gb522 ∧ k_ ≠ gb534)))) (n := t510.length) (c := co107) ?_).2.2; exact (by (with_reducible repeat (first | apply Kd.V_alloc | apply Kd.V_drewN | apply Kd.V_drew)); exact (Kd.V_mono (Kd.V_far (p := ⟨gb534, 1, none⟩) (Kd.V_far (p := ⟨gb534, 0, none⟩) (Kd.V_mono HO512.out (fun k_ hk => (⟨hk, hk.2.2.2⟩ : _ ∧ k_ ≠ gb534))) (fun _ hk => hk.2) (.slice Ao123 t527.length co123)) (fun _ hk => hk.2) (.slice Ao125 t530.length co125)) (fun _ h_ => h_.1)))); (case side4 => exact (Kd.V_reads' HO512.out).2.1); (case side5 => exact Kd.C_below HR0_0.out (by repeat (first | (with_reducible first | exact HB.out | apply yA_ | apply yN_ | apply yD_ | refine yS_ ?_ GE503.out | refine yS_ ?_ GE514.out | refine yS_ ?_ GE522.out | refine yS_ ?_ GE534.out) | exact HB.out))); (case side6 => exact HC0_0.out); (case side7 => exact Kd.C_below HR0_1.out (by repeat (first | (with_reducible first | exact HB.out | apply yA_ | apply yN_ | apply yD_ | refine yS_ ?_ GE503.out | refine yS_ ?_ GE514.out | refine yS_ ?_ GE522.out | refine yS_ ?_ GE534.out) | exact HB.out))); (case side8 => exact HC0_1.out); rintro e w131 ⟨rfl, hb⟩; have hz_ := zq2 HB gb534 (.slice Ao123 t527.length co123) (.slice Ao125 t530.length co125) (by repeat (first | (with_reducible first | exact Below.refl _ _ | apply yA_ | apply yN_ | apply yD_) | exact Below.refl _ _)) hb; replace hb := below_step hz_ hb; replace HO509 := zF HO509 (fun _ hk => hk.2.2.2) hb; replace HO512 := zF HO512 (fun _ hk => hk.2.2.2) hb; replace HO517 := zF HO517 (fun _ hk => hk.2.2.2) hb; replace HO520 := zF HO520 (fun _ hk => hk.2.2.2) hb; replace HO529 := zF HO529 (fun _ hk => hk.2.2.2) hb; replace HO532 := zF HO532 (fun _ hk => hk.2.2.2) hb; replace BK503 := zBF BK503 NB503_534 hb; replace BK514 := zBF BK514 NB514_534 hb; replace BK522 := zBF BK522 NB522_534 hb; replace BK534 := zBP BK534 hb; replace HB := zHF HB GE534 hb; clear hz_; (try clear hb)) | (go_at_call 10; (with_reducible refine (armadalaw01_live.calls kj3  true _ A100.out).mono ?_); rintro e w132 ⟨rfl, hb⟩; have hz_ := zq HB (by repeat (first | (with_reducible first | exact Below.refl _ _ | apply yA_ | apply yN_ | apply yD_) | exact Below.refl _ _)) hb; replace hb := below_step hz_ hb; replace HO509 := zV HO509 hb; replace HO512 := zV HO512 hb; replace HO517 := zV HO517 hb; replace HO520 := zV HO520 hb; replace HO529 := zV HO529 hb; replace HO532 := zV HO532 hb; replace BK503 := zB BK503 hb; replace BK514 := zB BK514 hb; replace BK522 := zB BK522 hb; replace BK534 := zB BK534 hb; replace HB := zH HB hb; clear hz_; (try clear hb)))
          go_ret
          exact ⟨by first | rfl | (simp [errW_none, errW_some] <;> rfl) | (simp [*, errW_none, errW_some] <;> rfl), by repeat (first | (with_reducible first | exact HB.out | apply yA_ | apply yN_ | apply yD_ | refine yS_ ?_ GE503.out | refine yS_ ?_ GE514.out | refine yS_ ?_ GE522.out | refine yS_ ?_ GE534.out) | exact HB.out)⟩
         ·replace c99 := Bool.eq_false_iff.mpr c99
          subst c99
          have H1 : (some false) = some true := by rw [if_neg (show ¬ (false = true) by decide)] at H; exact H
          clear H
          have H := H1
          clear H1
          exact absurd H (by simp)
       ·rw [if_neg c96] at H
        have c96b0 : (t521 == 0) = false := beq_eq_false_iff_ne.mpr c96
        have c96b1 : (t521 != 0) = true := bne_iff_ne.mpr c96
        replace H := Option.bind_eq_some_iff.mp H
        obtain ⟨t537, A1330, H⟩ := H
        replace H : (if t537 = true then ((armadalaw01_live.f kj3).bind fun t538 => (some t538)) else (some false)) = some true := H
        have A133 := Aside0.mk A1330
        clear A1330
        by_cases c134 : t537 = true
        ·subst c134
         have H1 : ((armadalaw01_live.f kj3).bind fun t538 => (some t538)) = some true := by rw [if_pos rfl] at H; exact H
         clear H
         have H := H1
         clear H1
         replace H := Option.bind_eq_some_iff.mp H
         obtain ⟨t538, A1350, H⟩ := H
         replace H : (some t538) = some true := H
         have A135 := Aside0.mk A1350
         clear A1350
         obtain rfl := Option.some.inj H
         have hcz136_0 : wc.cell? ⟨gb503, 0, none⟩ = some (.slice A0_0 l0_0.length c0_0) := (xC_ BK503.out 0).trans rfl
         have hcz136_1 : wc.cell? ⟨gb503, 1, none⟩ = some (.slice A0_1 l0_1.length c0_1) := (xC_ BK503.out 1).trans rfl
         have hfz136_0 := xF_ BK503.out 0
         have hfz136_1 := xF_ BK503.out 1
         try go_wp2_with (first | ((with_reducible refine gate_callee (f := 26) rfl ?_); refine goesL_ (some 41) rfl rfl Try.func26 (by kernel_rfl) rfl #[.agg #[.slice A0_0 l0_0.length c0_0, .slice A0_1 l0_1.length c0_1], .slice A1 l1.length c1, .int .i64 (l1.length : Int)] rfl (by (try simp only [List.map_toArray, List.map_cons, List.map_nil]); first | done | rfl) ?_; (with_reducible refine (disk_Run.calls kj3 (fun k_ => k_ < w.heap.size) _ _ l0_0 (fun k_ => k_ < w.heap.size) _ _ l0_1 _ _ l1 (l1.length : Int) t507 t510 t513 _ ?side1 ?side2 ?side3 ?side4 A22.out).mono ?_); (case side1 => exact Kd.V_mk HC0_0.out (Kd.F_below (Kd.C_F Kd.heap_string HR0_0.out) (by repeat (first | (with_reducible first | exact HB.out | apply yA_ | apply yN_ | apply yD_ | refine yS_ ?_ GE503.out) | exact HB.out)))); (case side2 => exact Kd.V_mk HC0_1.out (Kd.F_below (Kd.C_F k27_heap HR0_1.out) (by repeat (first | (with_reducible first | exact HB.out | apply yA_ | apply yN_ | apply yD_ | refine yS_ ?_ GE503.out) | exact HB.out)))); (case side3 => repeat (first | exact (Kd.C_below HR1.out HB.out) | (with_reducible refine Kd.C_alloc ?_ _) | (with_reducible refine Kd.C_drewN ?_ _) | (with_reducible refine Kd.C_drew ?_))); (case side4 => exact HC1.out); rintro e w137 ⟨v508, v511, rfl, ho0, ho1, hb⟩; refine ⟨_, rfl, ?_⟩; have hz_ := zq HB (by repeat (first | (with_reducible first | exact Below.refl _ _ | apply yA_ | apply yN_ | apply yD_) | exact Below.refl _ _)) hb; replace hb := below_step hz_ hb; have HO509 := Aside0.mk (Kd.V_lower (Kd.V_mono (ok' := fun k_ => k_ ≠ gb503) ho0 (fun k_ hk_ => Or.elim hk_ (fun hs_ => Or.elim hs_ (zg GW503) (zg GW503)) (zf BK503 hz_ k_))) (zs HB hz_)); have HO512 := Aside0.mk (Kd.V_lower (Kd.V_mono (ok' := fun k_ => k_ ≠ gb503) ho1 (fun k_ hk_ => Or.elim hk_ (fun hs_ => Or.elim hs_ (zg GW503) (zg GW503)) (zf BK503 hz_ k_))) (zs HB hz_)); replace BK503 := zB BK503 hb; replace HB := zH HB hb; clear hz_; (try clear hb); (try clear ho0); (try clear ho1)) | ((with_reducible refine gate_dst (N := 7) rfl ?_); (try (refine gate_guard (by rfl) ?_; dsimp only)); refine box_event ?hg (N := 7) ?hd (cs := #[.slice none 0 0, .slice none 0 0]) (t := 25) ?hr ?_; (case hd => rfl); (case hg => rfl); (case hr => first | (go_simp; done) | (go_simp; rfl)); intro gb514 hg w138 hbox hb; have hz_ := zq HB (by repeat (first | (with_reducible first | exact Below.refl _ _ | apply yA_ | apply yN_ | apply yD_) | exact Below.refl _ _)) hb; replace hb := below_step hz_ hb; replace HO509 := zE HO509 hz_ hg hb; replace HO512 := zE HO512 hz_ hg hb; have BK514 := Aside0.mk hbox; have GW514 := zG HB hz_ hg; have GE514 := zG HB hz_ hg; have NB503_514 := zN BK503 hz_ hg; have NB514_503 := zM BK503 hz_ hg; replace BK503 := zB BK503 hb; replace HB := zH HB hb; clear hz_; clear hb hbox hg; obtain ⟨Ao139, co139, eo139⟩ := Kd.V_slice HO509.out; subst eo139; have hnb140 := NB514_503.out; have hnc140 := NB503_514.out; have hcz141_0 : w138.cell? ⟨gb514, 0, none⟩ = some (.slice none 0 0) := (xC_ BK514.out 0).trans rfl; have hcz141_1 : w138.cell? ⟨gb514, 1, none⟩ = some (.slice none 0 0) := (xC_ BK514.out 1).trans rfl; have hfz141_0 := xF_ BK514.out 0; have hfz141_1 := xF_ BK514.out 1; obtain ⟨Ao142, co142, eo142⟩ := Kd.V_slice HO512.out; subst eo142) | ((with_reducible refine gate_store (t := 25) (p := 7) rfl ?_); refine store_event (t := 25) (p := 7) (v := ?vo_w143) (w1 := ((w138.setCell ⟨gb514, 0, none⟩ (.slice Ao139 t507.length co139)).setCell ⟨gb514, 1, none⟩ (.slice Ao142 t510.length co142))) ?hg ?ho ?hn ?hr ?_; (case ho => rfl); (case hg => rfl); (case hn => rfl); (case hr => first | (go_simp; done) | (go_simp; rfl)); intro w143 hw; have n0_ : Aside0 (Kd.V Kd.string 9 w143 w.heap.size (fun k_ => k_ ≠ gb503 ∧ k_ ≠ gb514) (.slice Ao139 t507.length co139) t507) := ⟨(by rw [hw]; exact (by (with_reducible repeat (first | apply Kd.V_alloc | apply Kd.V_drewN | apply Kd.V_drew)); exact Kd.V_mono (Kd.V_far (p := ⟨gb514, 1, none⟩) (Kd.V_far (p := ⟨gb514, 0, none⟩) (Kd.V_mono HO509.out (fun k_ hk => (⟨hk, hk.2⟩ : _ ∧ k_ ≠ gb514))) (fun _ hk => hk.2) (.slice Ao139 t507.length co139)) (fun _ hk => hk.2) (.slice Ao142 t510.length co142)) (fun _ hk => ⟨hk.1.1, hk.1.2⟩)))⟩; have n1_ : Aside0 (Kd.V k27 27 w143 w.heap.size (fun k_ => k_ ≠ gb503 ∧ k_ ≠ gb514) (.slice Ao142 t510.length co142) t510) := ⟨(by rw [hw]; exact (by (with_reducible repeat (first | apply Kd.V_alloc | apply Kd.V_drewN | apply Kd.V_drew)); exact Kd.V_mono (Kd.V_far (p := ⟨gb514, 1, none⟩) (Kd.V_far (p := ⟨gb514, 0, none⟩) (Kd.V_mono HO512.out (fun k_ hk => (⟨hk, hk.2⟩ : _ ∧ k_ ≠ gb514))) (fun _ hk => hk.2) (.slice Ao139 t507.length co139)) (fun _ hk => hk.2) (.slice Ao142 t510.length co142)) (fun _ hk => ⟨hk.1.1, hk.1.2⟩)))⟩; have n2_ : Aside0 (w143.heap[gb503]? = some (.cells #[.slice A0_0 l0_0.length c0_0, .slice A0_1 l0_1.length c0_1] 25 (0, 0))) := ⟨(by rw [hw]; exact (by (with_reducible repeat (first | apply xN_ | apply xD_ | apply xA_)); refine xR_ ?_ NB503_514.out _; refine xR_ ?_ NB503_514.out _; (with_reducible repeat (first | apply xN_ | apply xD_ | apply xA_)); exact BK503.out))⟩; have n3_ : Aside0 (w143.heap[gb514]? = some (.cells #[.slice Ao139 t507.length co139, .slice Ao142 t510.length co142] 25 (0, 0))) := ⟨(by rw [hw]; exact (by (with_reducible repeat (first | apply xN_ | apply xD_ | apply xA_)); refine blk_put (cs := #[.slice Ao139 t507.length co139, .slice none 0 0]) ?_ 1 _ rfl; refine blk_put (cs := #[.slice none 0 0, .slice none 0 0]) ?_ 0 _ rfl; (with_reducible repeat (first | apply xN_ | apply xD_ | apply xA_)); exact BK514.out))⟩; have n4_ : Aside0 (Below w.heap.size w w143) := ⟨(by rw [hw]; exact (by repeat (first | (with_reducible first | exact HB.out | apply yA_ | apply yN_ | apply yD_ | refine yS_ ?_ GE503.out | refine yS_ ?_ GE514.out) | exact HB.out)))⟩; clear hw; clear HO509; clear HO512; clear BK503; clear BK514; clear HB; have HO509 := n0_; have HO512 := n1_; have BK503 := n2_; have BK514 := n3_; have HB := n4_; clear n0_ n1_ n2_ n3_ n4_; have hcz144_0 : w143.cell? ⟨gb503, 0, none⟩ = some (.slice A0_0 l0_0.length c0_0) := (xC_ BK503.out 0).trans rfl; have hcz144_1 : w143.cell? ⟨gb503, 1, none⟩ = some (.slice A0_1 l0_1.length c0_1) := (xC_ BK503.out 1).trans rfl; have hfz144_0 := xF_ BK503.out 0; have hfz144_1 := xF_ BK503.out 1) | ((with_reducible refine gate_callee (f := 26) rfl ?_); refine goesL_ (some 48) rfl rfl Try.func26 (by kernel_rfl) rfl #[.agg #[.slice A0_0 l0_0.length c0_0, .slice A0_1 l0_1.length c0_1], .slice A1 l1.length c1, .int .i64 a2] rfl (by (try simp only [List.map_toArray, List.map_cons, List.map_nil]); first | done | rfl) ?_; (with_reducible refine (disk_Run.calls kj3 (fun k_ => k_ < w.heap.size) _ _ l0_0 (fun k_ => k_ < w.heap.size) _ _ l0_1 _ _ l1 a2 t515 t518 t521 _ ?side1 ?side2 ?side3 ?side4 A23.out).mono ?_); (case side1 => exact Kd.V_mk HC0_0.out (Kd.F_below (Kd.C_F Kd.heap_string HR0_0.out) (by repeat (first | (with_reducible first | exact HB.out | apply yA_ | apply yN_ | apply yD_ | refine yS_ ?_ GE503.out | refine yS_ ?_ GE514.out) | exact HB.out)))); (case side2 => exact Kd.V_mk HC0_1.out (Kd.F_below (Kd.C_F k27_heap HR0_1.out) (by repeat (first | (with_reducible first | exact HB.out | apply yA_ | apply yN_ | apply yD_ | refine yS_ ?_ GE503.out | refine yS_ ?_ GE514.out) | exact HB.out)))); (case side3 => repeat (first | exact (Kd.C_below HR1.out HB.out) | (with_reducible refine Kd.C_alloc ?_ _) | (with_reducible refine Kd.C_drewN ?_ _) | (with_reducible refine Kd.C_drew ?_))); (case side4 => exact HC1.out); rintro e w145 ⟨v516, v519, rfl, ho0, ho1, hb⟩; refine ⟨_, rfl, ?_⟩; have hz_ := zq HB (by repeat (first | (with_reducible first | exact Below.refl _ _ | apply yA_ | apply yN_ | apply yD_) | exact Below.refl _ _)) hb; replace hb := below_step hz_ hb; replace HO509 := zV HO509 hb; replace HO512 := zV HO512 hb; have HO517 := Aside0.mk (Kd.V_lower (Kd.V_mono (ok' := fun k_ => k_ ≠ gb503 ∧ k_ ≠ gb514) ho0 (fun k_ hk_ => ⟨Or.elim hk_ (fun hs_ => Or.elim hs_ (zg GW503) (zg GW503)) (zf BK503 hz_ k_), Or.elim hk_ (fun hs_ => Or.elim hs_ (zg GW514) (zg GW514)) (zf BK514 hz_ k_)⟩)) (zs HB hz_)); have HO520 := Aside0.mk (Kd.V_lower (Kd.V_mono (ok' := fun k_ => k_ ≠ gb503 ∧ k_ ≠ gb514) ho1 (fun k_ hk_ => ⟨Or.elim hk_ (fun hs_ => Or.elim hs_ (zg GW503) (zg GW503)) (zf BK503 hz_ k_), Or.elim hk_ (fun hs_ => Or.elim hs_ (zg GW514) (zg GW514)) (zf BK514 hz_ k_)⟩)) (zs HB hz_)); replace BK503 := zB BK503 hb; replace BK514 := zB BK514 hb; replace HB := zH HB hb; clear hz_; (try clear hb); (try clear ho0); (try clear ho1)) | ((with_reducible refine gate_dst (N := 9) rfl ?_); (try (refine gate_guard (by rfl) ?_; dsimp only)); refine box_event ?hg (N := 9) ?hd (cs := #[.slice none 0 0, .slice none 0 0]) (t := 25) ?hr ?_; (case hd => rfl); (case hg => rfl); (case hr => first | (go_simp; done) | (go_simp; rfl)); intro gb522 hg w146 hbox hb; have hz_ := zq HB (by repeat (first | (with_reducible first | exact Below.refl _ _ | apply yA_ | apply yN_ | apply yD_) | exact Below.refl _ _)) hb; replace hb := below_step hz_ hb; replace HO509 := zE HO509 hz_ hg hb; replace HO512 := zE HO512 hz_ hg hb; replace HO517 := zE HO517 hz_ hg hb; replace HO520 := zE HO520 hz_ hg hb; have BK522 := Aside0.mk hbox; have GW522 := zG HB hz_ hg; have GE522 := zG HB hz_ hg; have NB503_522 := zN BK503 hz_ hg; have NB522_503 := zM BK503 hz_ hg; have NB514_522 := zN BK514 hz_ hg; have NB522_514 := zM BK514 hz_ hg; replace BK503 := zB BK503 hb; replace BK514 := zB BK514 hb; replace HB := zH HB hb; clear hz_; clear hb hbox hg; obtain ⟨Ao147, co147, eo147⟩ := Kd.V_slice HO517.out; subst eo147; have hnb148 := NB522_503.out; have hnc148 := NB503_522.out; have hnb149 := NB522_514.out; have hnc149 := NB514_522.out; have hcz150_0 : w146.cell? ⟨gb522, 0, none⟩ = some (.slice none 0 0) := (xC_ BK522.out 0).trans rfl; have hcz150_1 : w146.cell? ⟨gb522, 1, none⟩ = some (.slice none 0 0) := (xC_ BK522.out 1).trans rfl; have hfz150_0 := xF_ BK522.out 0; have hfz150_1 := xF_ BK522.out 1; obtain ⟨Ao151, co151, eo151⟩ := Kd.V_slice HO520.out; subst eo151))
         have n0_ : Aside0 (Kd.V Kd.string 9 ((w146.setCell ⟨gb522, 0, none⟩ (.slice Ao147 t515.length co147)).setCell ⟨gb522, 1, none⟩ (.slice Ao151 t518.length co151)) w.heap.size (fun k_ => k_ ≠ gb503 ∧ k_ ≠ gb514 ∧ k_ ≠ gb522) (.slice Ao139 t507.length co139) t507) := ⟨by (with_reducible repeat (first | apply Kd.V_alloc | apply Kd.V_drewN | apply Kd.V_drew)); exact Kd.V_mono (Kd.V_far (p := ⟨gb522, 1, none⟩) (Kd.V_far (p := ⟨gb522, 0, none⟩) (Kd.V_mono HO509.out (fun k_ hk => (⟨hk, hk.2⟩ : _ ∧ k_ ≠ gb522))) (fun _ hk => hk.2) (.slice Ao147 t515.length co147)) (fun _ hk => hk.2) (.slice Ao151 t518.length co151)) (fun _ hk => ⟨hk.1.1.1, ⟨hk.1.1.2, hk.1.2⟩⟩)⟩
         have n1_ : Aside0 (Kd.V k27 27 ((w146.setCell ⟨gb522, 0, none⟩ (.slice Ao147 t515.length co147)).setCell ⟨gb522, 1, none⟩ (.slice Ao151 t518.length co151)) w.heap.size (fun k_ => k_ ≠ gb503 ∧ k_ ≠ gb514 ∧ k_ ≠ gb522) (.slice Ao142 t510.length co142) t510) := ⟨by (with_reducible repeat (first | apply Kd.V_alloc | apply Kd.V_drewN | apply Kd.V_drew)); exact Kd.V_mono (Kd.V_far (p := ⟨gb522, 1, none⟩) (Kd.V_far (p := ⟨gb522, 0, none⟩) (Kd.V_mono HO512.out (fun k_ hk => (⟨hk, hk.2⟩ : _ ∧ k_ ≠ gb522))) (fun _ hk => hk.2) (.slice Ao147 t515.length co147)) (fun _ hk => hk.2) (.slice Ao151 t518.length co151)) (fun _ hk => ⟨hk.1.1.1, ⟨hk.1.1.2, hk.1.2⟩⟩)⟩
         have n2_ : Aside0 (Kd.V Kd.string 9 ((w146.setCell ⟨gb522, 0, none⟩ (.slice Ao147 t515.length co147)).setCell ⟨gb522, 1, none⟩ (.slice Ao151 t518.length co151)) w.heap.size (fun k_ => k_ ≠ gb503 ∧ k_ ≠ gb514 ∧ k_ ≠ gb522) (.slice Ao147 t515.length co147) t515) := ⟨by (with_reducible repeat (first | apply Kd.V_alloc | apply Kd.V_drewN | apply Kd.V_drew)); exact Kd.V_mono (Kd.V_far (p := ⟨gb522, 1, none⟩) (Kd.V_far (p := ⟨gb522, 0, none⟩) (Kd.V_mono HO517.out (fun k_ hk => (⟨hk, hk.2⟩ : _ ∧ k_ ≠ gb522))) (fun _ hk => hk.2) (.slice Ao147 t515.length co147)) (fun _ hk => hk.2) (.slice Ao151 t518.length co151)) (fun _ hk => ⟨hk.1.1.1, ⟨hk.1.1.2, hk.1.2⟩⟩)⟩
         have n3_ : Aside0 (Kd.V k27 27 ((w146.setCell ⟨gb522, 0, none⟩ (.slice Ao147 t515.length co147)).setCell ⟨gb522, 1, none⟩ (.slice Ao151 t518.length co151)) w.heap.size (fun k_ => k_ ≠ gb503 ∧ k_ ≠ gb514 ∧ k_ ≠ gb522) (.slice Ao151 t518.length co151) t518) := ⟨by (with_reducible repeat (first | apply Kd.V_alloc | apply Kd.V_drewN | apply Kd.V_drew)); exact Kd.V_mono (Kd.V_far (p := ⟨gb522, 1, none⟩) (Kd.V_far (p := ⟨gb522, 0, none⟩) (Kd.V_mono HO520.out (fun k_ hk => (⟨hk, hk.2⟩ : _ ∧ k_ ≠ gb522))) (fun _ hk => hk.2) (.slice Ao147 t515.length co147)) (fun _ hk => hk.2) (.slice Ao151 t518.length co151)) (fun _ hk => ⟨hk.1.1.1, ⟨hk.1.1.2, hk.1.2⟩⟩)⟩
         have n4_ : Aside0 (((w146.setCell ⟨gb522, 0, none⟩ (.slice Ao147 t515.length co147)).setCell ⟨gb522, 1, none⟩ (.slice Ao151 t518.length co151)).heap[gb503]? = some (.cells #[.slice A0_0 l0_0.length c0_0, .slice A0_1 l0_1.length c0_1] 25 (0, 0))) := ⟨by (with_reducible repeat (first | apply xN_ | apply xD_ | apply xA_)); refine xR_ ?_ NB503_522.out _; refine xR_ ?_ NB503_522.out _; (with_reducible repeat (first | apply xN_ | apply xD_ | apply xA_)); exact BK503.out⟩
         have n5_ : Aside0 (((w146.setCell ⟨gb522, 0, none⟩ (.slice Ao147 t515.length co147)).setCell ⟨gb522, 1, none⟩ (.slice Ao151 t518.length co151)).heap[gb514]? = some (.cells #[.slice Ao139 t507.length co139, .slice Ao142 t510.length co142] 25 (0, 0))) := ⟨by (with_reducible repeat (first | apply xN_ | apply xD_ | apply xA_)); refine xR_ ?_ NB514_522.out _; refine xR_ ?_ NB514_522.out _; (with_reducible repeat (first | apply xN_ | apply xD_ | apply xA_)); exact BK514.out⟩
         have n6_ : Aside0 (((w146.setCell ⟨gb522, 0, none⟩ (.slice Ao147 t515.length co147)).setCell ⟨gb522, 1, none⟩ (.slice Ao151 t518.length co151)).heap[gb522]? = some (.cells #[.slice Ao147 t515.length co147, .slice Ao151 t518.length co151] 25 (0, 0))) := ⟨by (with_reducible repeat (first | apply xN_ | apply xD_ | apply xA_)); refine blk_put (cs := #[.slice Ao147 t515.length co147, .slice none 0 0]) ?_ 1 _ rfl; refine blk_put (cs := #[.slice none 0 0, .slice none 0 0]) ?_ 0 _ rfl; (with_reducible repeat (first | apply xN_ | apply xD_ | apply xA_)); exact BK522.out⟩
         have n7_ : Aside0 (Below w.heap.size w ((w146.setCell ⟨gb522, 0, none⟩ (.slice Ao147 t515.length co147)).setCell ⟨gb522, 1, none⟩ (.slice Ao151 t518.length co151))) := ⟨by repeat (first | (with_reducible first | exact HB.out | apply yA_ | apply yN_ | apply yD_ | refine yS_ ?_ GE503.out | refine yS_ ?_ GE514.out | refine yS_ ?_ GE522.out) | exact HB.out)⟩
         (try clear HO509)
         (try clear HO512)
         (try clear HO517)
         (try clear HO520)
         (try clear BK503)
         (try clear BK514)
         (try clear BK522)
         (try clear HB)
         generalize ((w146.setCell ⟨gb522, 0, none⟩ (.slice Ao147 t515.length co147)).setCell ⟨gb522, 1, none⟩ (.slice Ao151 t518.length co151)) = w152 at n0_ n1_ n2_ n3_ n4_ n5_ n6_ n7_ ⊢
         have HO509 := n0_
         have HO512 := n1_
         have HO517 := n2_
         have HO520 := n3_
         have BK503 := n4_
         have BK514 := n5_
         have BK522 := n6_
         have HB := n7_
         clear n0_ n1_ n2_ n3_ n4_ n5_ n6_ n7_
         replace HO509 := Aside0.mk (Kd.V_drew HO509.out)
         replace HO512 := Aside0.mk (Kd.V_drew HO512.out)
         replace HO517 := Aside0.mk (Kd.V_drew HO517.out)
         replace HO520 := Aside0.mk (Kd.V_drew HO520.out)
         replace BK503 := Aside0.mk (xD_ BK503.out)
         replace BK514 := Aside0.mk (xD_ BK514.out)
         replace BK522 := Aside0.mk (xD_ BK522.out)
         replace HB := Aside0.mk (yD_ HB.out)
         have q154 : (a2 : Int) ≤ ((l1.length : Int) : Int) := of_decide_eq_true (by first | (with_reducible assumption) | assumption)
         obtain ⟨i0154, hi0154, _, hsz154, _⟩ := info_parts info49
         have hroom154 : l1.length ≤ c1 := HC1.out
         have hC154 : Kd.C k49 _ A1 l1.length l1 := HR1.out
         have q0154 : (0 : Int) ≤ (a2 : Int) := of_decide_eq_true (by first | (with_reducible assumption) | assumption)
         have hcut154 := cut_from (P := Try.prog) 44 49 .i64 Try.underlying44 hi0154 3 hsz154 A1 l1.length c1 a2 q0154 q154
         have hr154 := Kd.C_drop (m := (a2 : Int).toNat) (c := c1) hC154 (by omega) hroom154
         obtain ⟨A154, hA154⟩ : ∃ Az_, Az_ = (if c1 = (a2 : Int).toNat then A1 else (A1 : Option Addr).map (·.add ((a2 : Int).toNat * 3))) := ⟨_, rfl⟩
         obtain ⟨c154, hc154⟩ : ∃ cz_, cz_ = c1 - (a2 : Int).toNat := ⟨_, rfl⟩
         have hy154 : y523.length = l1.length - (a2 : Int).toNat := (by rw [Ny523.out, List.length_drop] <;> omega)
         rw [show (l1).drop (a2 : Int).toNat = y523 from Ny523.out.symm] at hr154
         replace hr154 : Kd.C k49 _ A154 y523.length y523 := (by rw [hA154]; exact hr154)
         rw [← hy154, ← hA154, ← hc154] at hcut154
         have HR526 := Aside0.mk hr154
         have HC526 := Aside0.mk (show y523.length ≤ c154 from by rw [hy154, hc154]; exact Nat.sub_le_sub_right hroom154 _)
         clear hr154 hC154 hroom154 hi0154 hsz154 hc154
         have KY154 := Aside0.mk hy154
         have KA154 := Aside0.mk hA154
         clear hy154 hA154
         replace q154 := eq_true q154
         refine start_ (n := 15) (S := fun w' => w'.cell? ⟨gb522, 0, none⟩ = some (.slice Ao147 t515.length co147) ∧ w'.cell? ⟨gb522, 1, none⟩ = some (.slice Ao151 t518.length co151)) (ds := []) #[false, false, false, false, false, false, false, false, false, false, false, false, false, false, false] (by kernel_rfl) rfl rfl ⟨(xC_ BK522.out 0).trans rfl, (xC_ BK522.out 1).trans rfl⟩ (fun hHeld => ?_); refine with_tabW armadalaw01_DiskParts.tab5 armadalaw01_DiskParts.bits5 (fun HT_ HW_ => ?_)
         generalize w152.drew = w153 at HO509 HO512 HO517 HO520 BK503 BK514 BK522 HB HR526 hHeld ⊢
         refine pure_ (i := 1) (N := some 53) (v := ?_) (a' := ?_) #[false, true, false, false, false, false, false, false, false, false, false, false, false, false, false] rfl rfl (any_of HT_.out (by kernel_rfl)) (fun _ _ _ h => h) (Or.inl ⟨by rfl, ?_⟩) ?_ ?_
         rotate_left
         ·intro w'
          go_simp
          with_reducible rfl
         rotate_left
         ·simp only [Act.put, List.setIfInBounds_toArray, List.set_cons_zero, List.set_cons_succ, i64_w, i32_w]
          rfl
         refine pure_ (i := 2) (N := some 54) (v := ?_) (a' := ?_) #[false, true, true, false, false, false, false, false, false, false, false, false, false, false, false] rfl rfl (any_of HT_.out (by kernel_rfl)) (fun _ _ _ h => h) (Or.inl ⟨by rfl, ?_⟩) ?_ ?_
         rotate_left
         ·intro w'
          go_simp
          with_reducible rfl
         rotate_left
         ·simp only [Act.put, List.setIfInBounds_toArray, List.set_cons_zero, List.set_cons_succ, i64_w, i32_w]
          rfl
         refine pure_ (i := 3) (N := some 55) (v := ?_) (a' := ?_) #[false, true, true, true, false, false, false, false, false, false, false, false, false, false, false] rfl rfl (any_of HT_.out (by kernel_rfl)) (fun _ _ _ h => h) (Or.inl ⟨by rfl, ?_⟩) ?_ ?_
         rotate_left
         ·intro w'
          go_simp
          with_reducible rfl
         rotate_left
         ·simp only [Act.put, List.setIfInBounds_toArray, List.set_cons_zero, List.set_cons_succ, i64_w, i32_w]
          rfl
         refine pure_ (i := 4) (N := some 56) (v := ?_) (a' := ?_) #[false, true, true, true, true, false, false, false, false, false, false, false, false, false, false] rfl rfl (any_of HT_.out (by kernel_rfl)) (fun _ _ _ h => h) (Or.inl ⟨by rfl, ?_⟩) ?_ ?_
         rotate_left
         ·intro w'
          go_simp
          with_reducible rfl
         rotate_left
         ·simp only [Act.put, List.setIfInBounds_toArray, List.set_cons_zero, List.set_cons_succ, i64_w, i32_w]
          rfl
         refine pure_ (i := 5) (N := some 57) (v := ?_) (a' := ?_) #[false, true, true, true, true, true, false, false, false, false, false, false, false, false, false] rfl rfl (any_of HT_.out (by kernel_rfl)) (fun _ _ _ h => h) (Or.inl ⟨by rfl, ?_⟩) ?_ ?_
         rotate_left
         ·intro w'
          go_simp
          with_reducible rfl
         rotate_left
         ·simp only [Act.put, List.setIfInBounds_toArray, List.set_cons_zero, List.set_cons_succ, i64_w, i32_w]
          rfl
         refine pure_ (i := 6) (N := some 58) (v := ?_) (a' := ?_) #[false, true, true, true, true, true, true, false, false, false, false, false, false, false, false] rfl rfl (any_of HT_.out (by kernel_rfl)) (fun _ _ _ h => h) (Or.inl ⟨by rfl, ?_⟩) ?_ ?_
         rotate_left
         ·intro w'
          go_simp
          with_reducible rfl
         rotate_left
         ·simp only [Act.put, List.setIfInBounds_toArray, List.set_cons_zero, List.set_cons_succ, i64_w, i32_w]
          rfl
         refine pure_ (i := 7) (N := some 59) (v := ?_) (a' := ?_) #[false, true, true, true, true, true, true, true, false, false, false, false, false, false, false] rfl rfl (any_of HT_.out (by kernel_rfl)) (fun _ _ _ h => h) (Or.inl ⟨by rfl, ?_⟩) ?_ ?_
         rotate_left
         ·intro w'
          go_simp
          with_reducible rfl
         rotate_left
         ·simp only [Act.put, List.setIfInBounds_toArray, List.set_cons_zero, List.set_cons_succ, i64_w, i32_w]
          rfl
         refine take_ (i := 0) (N := some 52) (v := ?_) (a' := ?_) #[true, true, true, true, true, true, true, true, false, false, false, false, false, false, false] rfl rfl (take_ofW HT_.out HW_.out (by kernel_rfl)) (fun _ _ _ h => h) (Or.inl ⟨by rfl, ?_⟩) hHeld ?_ ?_
         rotate_left
         ·rintro w' ⟨s0, s1⟩
          go_simp
          with_reducible rfl
         rotate_left
         ·simp only [Act.put, List.setIfInBounds_toArray, List.set_cons_zero, List.set_cons_succ, i64_w, i32_w]
          rfl
         refine join_ (σ := Value × Value × Nat) 2 #[true, true, true, true, true, true, true, true, true, true, true, true, true, false, false] (fun s_ => [(60, .tuple #[.agg #[s_.1, s_.2.1], .int .i64 t533]), (11, .pointer (some ⟨s_.2.2, 0, none⟩)), (51, .tuple #[.agg #[s_.1, s_.2.1], .int .i64 t533]), (61, .agg #[s_.1, s_.2.1]), (62, .int .i64 t533)]) (fun s_ w' => (w'.cell? ⟨gb522, 0, none⟩ = some (.slice Ao147 t515.length co147) ∧ w'.cell? ⟨gb522, 1, none⟩ = some (.slice Ao151 t518.length co151)) ∧ (Kd.V Kd.string 9 w' w.heap.size (fun k_ => k_ ≠ gb503 ∧ k_ ≠ gb514 ∧ k_ ≠ gb522 ∧ k_ ≠ s_.2.2) (.slice Ao139 t507.length co139) t507) ∧ (Kd.V k27 27 w' w.heap.size (fun k_ => k_ ≠ gb503 ∧ k_ ≠ gb514 ∧ k_ ≠ gb522 ∧ k_ ≠ s_.2.2) (.slice Ao142 t510.length co142) t510) ∧ (Kd.V Kd.string 9 w' w.heap.size (fun k_ => k_ ≠ gb503 ∧ k_ ≠ gb514 ∧ k_ ≠ gb522 ∧ k_ ≠ s_.2.2) (.slice Ao147 t515.length co147) t515) ∧ (Kd.V k27 27 w' w.heap.size (fun k_ => k_ ≠ gb503 ∧ k_ ≠ gb514 ∧ k_ ≠ gb522 ∧ k_ ≠ s_.2.2) (.slice Ao151 t518.length co151) t518) ∧ (Kd.V Kd.string 9 w' w.heap.size (fun k_ => k_ ≠ gb503 ∧ k_ ≠ gb514 ∧ k_ ≠ gb522 ∧ k_ ≠ s_.2.2) s_.1 t527) ∧ (Kd.V k27 27 w' w.heap.size (fun k_ => k_ ≠ gb503 ∧ k_ ≠ gb514 ∧ k_ ≠ gb522 ∧ k_ ≠ s_.2.2) s_.2.1 t530) ∧ (w'.heap[gb503]? = some (.cells #[.slice A0_0 l0_0.length c0_0, .slice A0_1 l0_1.length c0_1] 25 (0, 0))) ∧ (w'.heap[gb514]? = some (.cells #[.slice Ao139 t507.length co139, .slice Ao142 t510.length co142] 25 (0, 0))) ∧ (w'.heap[gb522]? = some (.cells #[.slice Ao147 t515.length co147, .slice Ao151 t518.length co151] 25 (0, 0))) ∧ (w'.heap[s_.2.2]? = some (.cells #[.slice none 0 0, .slice none 0 0] 25 (0, 0))) ∧ (w.heap.size ≤ s_.2.2) ∧ (w.heap.size ≤ s_.2.2) ∧ (gb503 ≠ s_.2.2) ∧ (s_.2.2 ≠ gb503) ∧ (gb514 ≠ s_.2.2) ∧ (s_.2.2 ≠ gb514) ∧ (gb522 ≠ s_.2.2) ∧ (s_.2.2 ≠ gb522) ∧ (Below w.heap.size w w')) ?_ ?_
         rotate_left
         ·intro hCont
          refine two_ (i := 8) (j := 12) (Ni := some 60) (Nj := some 11) #[true, true, true, true, true, true, true, true, true, false, false, false, false, false, false] #[true, true, true, true, true, true, true, true, false, false, false, false, true, false, false] rfl rfl rfl rfl (two_of HT_.out (by kernel_rfl)) (by decide) (by decide) (fun K hK => ?_) (fun K hK => ?_)
          ·skip
           refine goes_ Try.func26 (by kernel_rfl) rfl #[.agg #[.slice Ao147 t515.length co147, .slice Ao151 t518.length co151], .slice A154 y523.length c154, .int .i64 (wrap64 ((l1.length : Int) - a2))] (by rfl) rfl rfl (by (try simp only [List.map_toArray, List.map_cons, List.map_nil]); first | done | rfl) ?_
           with_reducible refine (disk_Run.calls kj3 (fun k_ => (k_ ≠ gb503 ∧ (k_ ≠ gb514 ∧ k_ ≠ gb522))) _ _ t515 (fun k_ => (k_ ≠ gb503 ∧ (k_ ≠ gb514 ∧ k_ ≠ gb522))) _ _ t518 _ _ y523 (wrap64 ((l1.length : Int) - a2)) t527 t530 t533 _ ?side1 ?side2 ?side3 ?side4 A26.out).mono ?_
           (case side1 => exact HO517.out)
           (case side2 => exact HO520.out)
           (case side3 => repeat (first | exact (Kd.C_below HR526.out HB.out) | (with_reducible refine Kd.C_alloc ?_ _) | (with_reducible refine Kd.C_drewN ?_ _) | (with_reducible refine Kd.C_drew ?_)))
           (case side4 => exact HC526.out)
           rintro e w155 ⟨v528, v531, rfl, ho0, ho1, hb⟩
           refine ⟨_, rfl, ?_⟩
           have hz_ := zq HB (by repeat (first | (with_reducible first | exact Below.refl _ _ | apply yA_ | apply yN_ | apply yD_) | exact Below.refl _ _)) hb
           replace hb := below_step hz_ hb
           replace HO509 := zV HO509 hb
           replace HO512 := zV HO512 hb
           replace HO517 := zV HO517 hb
           replace HO520 := zV HO520 hb
           have HO529 := Aside0.mk (Kd.V_lower (Kd.V_mono (ok' := fun k_ => k_ ≠ gb503 ∧ k_ ≠ gb514 ∧ k_ ≠ gb522) ho0 (fun k_ hk_ => ⟨Or.elim hk_ (fun hs_ => Or.elim hs_ (fun hs_ => hs_.1) (fun hs_ => hs_.1)) (zf BK503 hz_ k_), Or.elim hk_ (fun hs_ => Or.elim hs_ (fun hs_ => hs_.2.1) (fun hs_ => hs_.2.1)) (zf BK514 hz_ k_), Or.elim hk_ (fun hs_ => Or.elim hs_ (fun hs_ => hs_.2.2) (fun hs_ => hs_.2.2)) (zf BK522 hz_ k_)⟩)) (zs HB hz_))
           have HO532 := Aside0.mk (Kd.V_lower (Kd.V_mono (ok' := fun k_ => k_ ≠ gb503 ∧ k_ ≠ gb514 ∧ k_ ≠ gb522) ho1 (fun k_ hk_ => ⟨Or.elim hk_ (fun hs_ => Or.elim hs_ (fun hs_ => hs_.1) (fun hs_ => hs_.1)) (zf BK503 hz_ k_), Or.elim hk_ (fun hs_ => Or.elim hs_ (fun hs_ => hs_.2.1) (fun hs_ => hs_.2.1)) (zf BK514 hz_ k_), Or.elim hk_ (fun hs_ => Or.elim hs_ (fun hs_ => hs_.2.2) (fun hs_ => hs_.2.2)) (zf BK522 hz_ k_)⟩)) (zs HB hz_))
           replace BK503 := zB BK503 hb
           replace BK514 := zB BK514 hb
           replace BK522 := zB BK522 hb
           replace HB := zH HB hb
           clear hz_
           (try clear hb)
           (try clear hb2)
           (try clear hk)
           (try clear hi)
           (try clear ho0)
           (try clear ho1)
           refine hK.out _ _ ⟨(xC_ BK522.out 0).trans rfl, (xC_ BK522.out 1).trans rfl⟩ (fun hHeld => ?_)
           clear hK K
           refine norm_ (a' := ?_) ?_ ?_
           rotate_left
           ·show Act.put _ (some 60) _ = _
            simp only [Act.put, List.setIfInBounds_toArray, List.set_cons_zero, List.set_cons_succ, i64_w, i32_w]
            rfl
           refine pure_ (i := 9) (N := some 51) (v := ?_) (a' := ?_) #[true, true, true, true, true, true, true, true, true, true, false, false, false, false, false] rfl rfl (any_of HT_.out (by kernel_rfl)) (fun _ _ _ h => h) (Or.inl ⟨by rfl, ?_⟩) ?_ ?_
           rotate_left
           ·intro w'
            go_simp
            with_reducible rfl
           rotate_left
           ·simp only [Act.put, List.setIfInBounds_toArray, List.set_cons_zero, List.set_cons_succ, i64_w, i32_w]
            rfl
           refine pure_ (i := 10) (N := some 61) (v := ?_) (a' := ?_) #[true, true, true, true, true, true, true, true, true, true, true, false, false, false, false] rfl rfl (any_of HT_.out (by kernel_rfl)) (fun _ _ _ h => h) (Or.inl ⟨by rfl, ?_⟩) ?_ ?_
           rotate_left
           ·intro w'
            go_simp
            with_reducible rfl
           rotate_left
           ·simp only [Act.put, List.setIfInBounds_toArray, List.set_cons_zero, List.set_cons_succ, i64_w, i32_w]
            rfl
           refine pure_ (i := 11) (N := some 62) (v := ?_) (a' := ?_) #[true, true, true, true, true, true, true, true, true, true, true, true, false, false, false] rfl rfl (any_of HT_.out (by kernel_rfl)) (fun _ _ _ h => h) (Or.inl ⟨by rfl, ?_⟩) ?_ ?_
           rotate_left
           ·intro w'
            go_simp
            with_reducible rfl
           rotate_left
           ·simp only [Act.put, List.setIfInBounds_toArray, List.set_cons_zero, List.set_cons_succ, i64_w, i32_w]
            rfl
           refine one_ (i := 12) (N := some 11) #[true, true, true, true, true, true, true, true, true, true, true, true, true, false, false] rfl rfl (one_of HT_.out (by kernel_rfl)) (by decide) (fun K hK => ?_)
           refine box_step ?hg (N := 11) ?hd (cs := #[.slice none 0 0, .slice none 0 0]) (t := 25) ?hr ?_; (case hd => rfl); (case hg => rfl); (case hr => first | (go_simp; done) | (go_simp; rfl))
           intro gb534 hg w156 hbox hb
           have hz_ := zq HB (by repeat (first | (with_reducible first | exact Below.refl _ _ | apply yA_ | apply yN_ | apply yD_) | exact Below.refl _ _)) hb
           replace hb := below_step hz_ hb
           replace HO509 := zE HO509 hz_ hg hb
           replace HO512 := zE HO512 hz_ hg hb
           replace HO517 := zE HO517 hz_ hg hb
           replace HO520 := zE HO520 hz_ hg hb
           replace HO529 := zE HO529 hz_ hg hb
           replace HO532 := zE HO532 hz_ hg hb
           have BK534 := Aside0.mk hbox
           have GW534 := zG HB hz_ hg
           have GE534 := zG HB hz_ hg
           have NB503_534 := zN BK503 hz_ hg
           have NB534_503 := zM BK503 hz_ hg
           have NB514_534 := zN BK514 hz_ hg
           have NB534_514 := zM BK514 hz_ hg
           have NB522_534 := zN BK522 hz_ hg
           have NB534_522 := zM BK522 hz_ hg
           replace BK503 := zB BK503 hb
           replace BK514 := zB BK514 hb
           replace BK522 := zB BK522 hb
           replace HB := zH HB hb
           clear hz_
           clear hb hbox hg
           refine hK.out _ _ ⟨(xC_ BK522.out 0).trans rfl, (xC_ BK522.out 1).trans rfl⟩ (fun hHeld => ?_)
           clear hK K
           refine norm_ (a' := ?_) ?_ ?_
           rotate_left
           ·show Act.put _ (some 11) _ = _
            simp only [Act.put, List.setIfInBounds_toArray, List.set_cons_zero, List.set_cons_succ, i64_w, i32_w]
            rfl
           exact norm_ (by simp only [putAll, Act.put, List.setIfInBounds_toArray, List.set_cons_zero, List.set_cons_succ]) (hCont (v528, v531, gb534) _ ⟨hHeld, (by (with_reducible repeat (first | apply Kd.V_alloc | apply Kd.V_drewN | apply Kd.V_drew)); exact Kd.V_mono HO509.out (fun _ hk => ⟨hk.1.1, ⟨hk.1.2.1, ⟨hk.1.2.2, hk.2⟩⟩⟩)), (by (with_reducible repeat (first | apply Kd.V_alloc | apply Kd.V_drewN | apply Kd.V_drew)); exact Kd.V_mono HO512.out (fun _ hk => ⟨hk.1.1, ⟨hk.1.2.1, ⟨hk.1.2.2, hk.2⟩⟩⟩)), (by (with_reducible repeat (first | apply Kd.V_alloc | apply Kd.V_drewN | apply Kd.V_drew)); exact Kd.V_mono HO517.out (fun _ hk => ⟨hk.1.1, ⟨hk.1.2.1, ⟨hk.1.2.2, hk.2⟩⟩⟩)), (by (with_reducible repeat (first | apply Kd.V_alloc | apply Kd.V_drewN | apply Kd.V_drew)); exact Kd.V_mono HO520.out (fun _ hk => ⟨hk.1.1, ⟨hk.1.2.1, ⟨hk.1.2.2, hk.2⟩⟩⟩)), (by (with_reducible repeat (first | apply Kd.V_alloc | apply Kd.V_drewN | apply Kd.V_drew)); exact Kd.V_mono HO529.out (fun _ hk => ⟨hk.1.1, ⟨hk.1.2.1, ⟨hk.1.2.2, hk.2⟩⟩⟩)), (by (with_reducible repeat (first | apply Kd.V_alloc | apply Kd.V_drewN | apply Kd.V_drew)); exact Kd.V_mono HO532.out (fun _ hk => ⟨hk.1.1, ⟨hk.1.2.1, ⟨hk.1.2.2, hk.2⟩⟩⟩)), (by (with_reducible repeat (first | apply xN_ | apply xD_ | apply xA_)); exact BK503.out), (by (with_reducible repeat (first | apply xN_ | apply xD_ | apply xA_)); exact BK514.out), (by (with_reducible repeat (first | apply xN_ | apply xD_ | apply xA_)); exact BK522.out), (by (with_reducible repeat (first | apply xN_ | apply xD_ | apply xA_)); exact BK534.out), GW534.out, GE534.out, NB503_534.out, NB534_503.out, NB514_534.out, NB534_514.out, NB522_534.out, NB534_522.out, (by repeat (first | (with_reducible first | exact HB.out | apply yA_ | apply yN_ | apply yD_ | refine yS_ ?_ GE503.out | refine yS_ ?_ GE514.out | refine yS_ ?_ GE522.out | refine yS_ ?_ GE534.out) | exact HB.out))⟩)
          ·skip
           refine box_step ?hg (N := 11) ?hd (cs := #[.slice none 0 0, .slice none 0 0]) (t := 25) ?hr ?_; (case hd => rfl); (case hg => rfl); (case hr => first | (go_simp; done) | (go_simp; rfl))
           intro gb534 hg w155 hbox hb
           have hz_ := zq HB (by repeat (first | (with_reducible first | exact Below.refl _ _ | apply yA_ | apply yN_ | apply yD_) | exact Below.refl _ _)) hb
           replace hb := below_step hz_ hb
           replace HO509 := zE HO509 hz_ hg hb
           replace HO512 := zE HO512 hz_ hg hb
           replace HO517 := zE HO517 hz_ hg hb
           replace HO520 := zE HO520 hz_ hg hb
           have BK534 := Aside0.mk hbox
           have GW534 := zG HB hz_ hg
           have GE534 := zG HB hz_ hg
           have NB503_534 := zN BK503 hz_ hg
           have NB534_503 := zM BK503 hz_ hg
           have NB514_534 := zN BK514 hz_ hg
           have NB534_514 := zM BK514 hz_ hg
           have NB522_534 := zN BK522 hz_ hg
           have NB534_522 := zM BK522 hz_ hg
           replace BK503 := zB BK503 hb
           replace BK514 := zB BK514 hb
           replace BK522 := zB BK522 hb
           replace HB := zH HB hb
           clear hz_
           clear hb hbox hg
           refine hK.out _ _ ⟨(xC_ BK522.out 0).trans rfl, (xC_ BK522.out 1).trans rfl⟩ (fun hHeld => ?_)
           clear hK K
           refine norm_ (a' := ?_) ?_ ?_
           rotate_left
           ·show Act.put _ (some 11) _ = _
            simp only [Act.put, List.setIfInBounds_toArray, List.set_cons_zero, List.set_cons_succ, i64_w, i32_w]
            rfl
           refine one_ (i := 8) (N := some 60) #[true, true, true, true, true, true, true, true, true, false, false, false, true, false, false] rfl rfl (one_of HT_.out (by kernel_rfl)) (by decide) (fun K hK => ?_)
           refine goes_ Try.func26 (by kernel_rfl) rfl #[.agg #[.slice Ao147 t515.length co147, .slice Ao151 t518.length co151], .slice A154 y523.length c154, .int .i64 (wrap64 ((l1.length : Int) - a2))] (by rfl) rfl rfl (by (try simp only [List.map_toArray, List.map_cons, List.map_nil]); first | done | rfl) ?_
           with_reducible refine (disk_Run.calls kj3 (fun k_ => ((k_ ≠ gb503 ∧ (k_ ≠ gb514 ∧ k_ ≠ gb522)) ∧ k_ ≠ gb534)) _ _ t515 (fun k_ => ((k_ ≠ gb503 ∧ (k_ ≠ gb514 ∧ k_ ≠ gb522)) ∧ k_ ≠ gb534)) _ _ t518 _ _ y523 (wrap64 ((l1.length : Int) - a2)) t527 t530 t533 _ ?side1 ?side2 ?side3 ?side4 A26.out).mono ?_
           (case side1 => exact HO517.out)
           (case side2 => exact HO520.out)
           (case side3 => repeat (first | exact (Kd.C_below HR526.out HB.out) | (with_reducible refine Kd.C_alloc ?_ _) | (with_reducible refine Kd.C_drewN ?_ _) | (with_reducible refine Kd.C_drew ?_)))
           (case side4 => exact HC526.out)
           rintro e w156 ⟨v528, v531, rfl, ho0, ho1, hb⟩
           refine ⟨_, rfl, ?_⟩
           have hz_ := zq HB (by repeat (first | (with_reducible first | exact Below.refl _ _ | apply yA_ | apply yN_ | apply yD_) | exact Below.refl _ _)) hb
           replace hb := below_step hz_ hb
           replace HO509 := zV HO509 hb
           replace HO512 := zV HO512 hb
           replace HO517 := zV HO517 hb
           replace HO520 := zV HO520 hb
           have HO529 := Aside0.mk (Kd.V_lower (Kd.V_mono (ok' := fun k_ => k_ ≠ gb503 ∧ k_ ≠ gb514 ∧ k_ ≠ gb522 ∧ k_ ≠ gb534) ho0 (fun k_ hk_ => ⟨Or.elim hk_ (fun hs_ => Or.elim hs_ (fun hs_ => hs_.1.1) (fun hs_ => hs_.1.1)) (zf BK503 hz_ k_), Or.elim hk_ (fun hs_ => Or.elim hs_ (fun hs_ => hs_.1.2.1) (fun hs_ => hs_.1.2.1)) (zf BK514 hz_ k_), Or.elim hk_ (fun hs_ => Or.elim hs_ (fun hs_ => hs_.1.2.2) (fun hs_ => hs_.1.2.2)) (zf BK522 hz_ k_), Or.elim hk_ (fun hs_ => Or.elim hs_ (fun hs_ => hs_.2) (fun hs_ => hs_.2)) (zf BK534 hz_ k_)⟩)) (zs HB hz_))
           have HO532 := Aside0.mk (Kd.V_lower (Kd.V_mono (ok' := fun k_ => k_ ≠ gb503 ∧ k_ ≠ gb514 ∧ k_ ≠ gb522 ∧ k_ ≠ gb534) ho1 (fun k_ hk_ => ⟨Or.elim hk_ (fun hs_ => Or.elim hs_ (fun hs_ => hs_.1.1) (fun hs_ => hs_.1.1)) (zf BK503 hz_ k_), Or.elim hk_ (fun hs_ => Or.elim hs_ (fun hs_ => hs_.1.2.1) (fun hs_ => hs_.1.2.1)) (zf BK514 hz_ k_), Or.elim hk_ (fun hs_ => Or.elim hs_ (fun hs_ => hs_.1.2.2) (fun hs_ => hs_.1.2.2)) (zf BK522 hz_ k_), Or.elim hk_ (fun hs_ => Or.elim hs_ (fun hs_ => hs_.2) (fun hs_ => hs_.2)) (zf BK534 hz_ k_)⟩)) (zs HB hz_))
           replace BK503 := zB BK503 hb
           replace BK514 := zB BK514 hb
           replace BK522 := zB BK522 hb
           replace BK534 := zB BK534 hb
           replace HB := zH HB hb
           clear hz_
           (try clear hb)
           (try clear hb2)
           (try clear hk)
           (try clear hi)
           (try clear ho0)
           (try clear ho1)
           refine hK.out _ _ ⟨(xC_ BK522.out 0).trans rfl, (xC_ BK522.out 1).trans rfl⟩ (fun hHeld => ?_)
           clear hK K
           refine norm_ (a' := ?_) ?_ ?_
           rotate_left
           ·show Act.put _ (some 60) _ = _
            simp only [Act.put, List.setIfInBounds_toArray, List.set_cons_zero, List.set_cons_succ, i64_w, i32_w]
            rfl
           refine pure_ (i := 9) (N := some 51) (v := ?_) (a' := ?_) #[true, true, true, true, true, true, true, true, true, true, false, false, true, false, false] rfl rfl (any_of HT_.out (by kernel_rfl)) (fun _ _ _ h => h) (Or.inl ⟨by rfl, ?_⟩) ?_ ?_
           rotate_left
           ·intro w'
            go_simp
            with_reducible rfl
           rotate_left
           ·simp only [Act.put, List.setIfInBounds_toArray, List.set_cons_zero, List.set_cons_succ, i64_w, i32_w]
            rfl
           refine pure_ (i := 10) (N := some 61) (v := ?_) (a' := ?_) #[true, true, true, true, true, true, true, true, true, true, true, false, true, false, false] rfl rfl (any_of HT_.out (by kernel_rfl)) (fun _ _ _ h => h) (Or.inl ⟨by rfl, ?_⟩) ?_ ?_
           rotate_left
           ·intro w'
            go_simp
            with_reducible rfl
           rotate_left
           ·simp only [Act.put, List.setIfInBounds_toArray, List.set_cons_zero, List.set_cons_succ, i64_w, i32_w]
            rfl
           refine pure_ (i := 11) (N := some 62) (v := ?_) (a' := ?_) #[true, true, true, true, true, true, true, true, true, true, true, true, true, false, false] rfl rfl (any_of HT_.out (by kernel_rfl)) (fun _ _ _ h => h) (Or.inl ⟨by rfl, ?_⟩) ?_ ?_
           rotate_left
           ·intro w'
            go_simp
            with_reducible rfl
           rotate_left
           ·simp only [Act.put, List.setIfInBounds_toArray, List.set_cons_zero, List.set_cons_succ, i64_w, i32_w]
            rfl
           exact norm_ (by simp only [putAll, Act.put, List.setIfInBounds_toArray, List.set_cons_zero, List.set_cons_succ]) (hCont (v528, v531, gb534) _ ⟨hHeld, (by (with_reducible repeat (first | apply Kd.V_alloc | apply Kd.V_drewN | apply Kd.V_drew)); exact Kd.V_mono HO509.out (fun _ hk => ⟨hk.1.1, ⟨hk.1.2.1, ⟨hk.1.2.2, hk.2⟩⟩⟩)), (by (with_reducible repeat (first | apply Kd.V_alloc | apply Kd.V_drewN | apply Kd.V_drew)); exact Kd.V_mono HO512.out (fun _ hk => ⟨hk.1.1, ⟨hk.1.2.1, ⟨hk.1.2.2, hk.2⟩⟩⟩)), (by (with_reducible repeat (first | apply Kd.V_alloc | apply Kd.V_drewN | apply Kd.V_drew)); exact Kd.V_mono HO517.out (fun _ hk => ⟨hk.1.1, ⟨hk.1.2.1, ⟨hk.1.2.2, hk.2⟩⟩⟩)), (by (with_reducible repeat (first | apply Kd.V_alloc | apply Kd.V_drewN | apply Kd.V_drew)); exact Kd.V_mono HO520.out (fun _ hk => ⟨hk.1.1, ⟨hk.1.2.1, ⟨hk.1.2.2, hk.2⟩⟩⟩)), (by (with_reducible repeat (first | apply Kd.V_alloc | apply Kd.V_drewN | apply Kd.V_drew)); exact HO529.out), (by (with_reducible repeat (first | apply Kd.V_alloc | apply Kd.V_drewN | apply Kd.V_drew)); exact HO532.out), (by (with_reducible repeat (first | apply xN_ | apply xD_ | apply xA_)); exact BK503.out), (by (with_reducible repeat (first | apply xN_ | apply xD_ | apply xA_)); exact BK514.out), (by (with_reducible repeat (first | apply xN_ | apply xD_ | apply xA_)); exact BK522.out), (by (with_reducible repeat (first | apply xN_ | apply xD_ | apply xA_)); exact BK534.out), GW534.out, GE534.out, NB503_534.out, NB534_503.out, NB514_534.out, NB534_514.out, NB522_534.out, NB534_522.out, (by repeat (first | (with_reducible first | exact HB.out | apply yA_ | apply yN_ | apply yD_ | refine yS_ ?_ GE503.out | refine yS_ ?_ GE514.out | refine yS_ ?_ GE522.out | refine yS_ ?_ GE534.out) | exact HB.out))⟩)
         rintro ⟨v528, v531, gb534⟩ w157 ⟨hS_, h0_, h1_, h2_, h3_, h4_, h5_, h6_, h7_, h8_, h9_, h10_, h11_, h12_, h13_, h14_, h15_, h16_, h17_, h18_⟩
         have n0_ : Aside0 (Kd.V Kd.string 9 w157 w.heap.size (fun k_ => k_ ≠ gb503 ∧ k_ ≠ gb514 ∧ k_ ≠ gb522 ∧ k_ ≠ gb534) (.slice Ao139 t507.length co139) t507) := ⟨h0_⟩
         have n1_ : Aside0 (Kd.V k27 27 w157 w.heap.size (fun k_ => k_ ≠ gb503 ∧ k_ ≠ gb514 ∧ k_ ≠ gb522 ∧ k_ ≠ gb534) (.slice Ao142 t510.length co142) t510) := ⟨h1_⟩
         have n2_ : Aside0 (Kd.V Kd.string 9 w157 w.heap.size (fun k_ => k_ ≠ gb503 ∧ k_ ≠ gb514 ∧ k_ ≠ gb522 ∧ k_ ≠ gb534) (.slice Ao147 t515.length co147) t515) := ⟨h2_⟩
         have n3_ : Aside0 (Kd.V k27 27 w157 w.heap.size (fun k_ => k_ ≠ gb503 ∧ k_ ≠ gb514 ∧ k_ ≠ gb522 ∧ k_ ≠ gb534) (.slice Ao151 t518.length co151) t518) := ⟨h3_⟩
         have n4_ : Aside0 (Kd.V Kd.string 9 w157 w.heap.size (fun k_ => k_ ≠ gb503 ∧ k_ ≠ gb514 ∧ k_ ≠ gb522 ∧ k_ ≠ gb534) v528 t527) := ⟨h4_⟩
         have n5_ : Aside0 (Kd.V k27 27 w157 w.heap.size (fun k_ => k_ ≠ gb503 ∧ k_ ≠ gb514 ∧ k_ ≠ gb522 ∧ k_ ≠ gb534) v531 t530) := ⟨h5_⟩
         have n6_ : Aside0 (w157.heap[gb503]? = some (.cells #[.slice A0_0 l0_0.length c0_0, .slice A0_1 l0_1.length c0_1] 25 (0, 0))) := ⟨h6_⟩
         have n7_ : Aside0 (w157.heap[gb514]? = some (.cells #[.slice Ao139 t507.length co139, .slice Ao142 t510.length co142] 25 (0, 0))) := ⟨h7_⟩
         have n8_ : Aside0 (w157.heap[gb522]? = some (.cells #[.slice Ao147 t515.length co147, .slice Ao151 t518.length co151] 25 (0, 0))) := ⟨h8_⟩
         have n9_ : Aside0 (w157.heap[gb534]? = some (.cells #[.slice none 0 0, .slice none 0 0] 25 (0, 0))) := ⟨h9_⟩
         have n10_ : Aside0 (w.heap.size ≤ gb534) := ⟨h10_⟩
         have n11_ : Aside0 (w.heap.size ≤ gb534) := ⟨h11_⟩
         have n12_ : Aside0 (gb503 ≠ gb534) := ⟨h12_⟩
         have n13_ : Aside0 (gb534 ≠ gb503) := ⟨h13_⟩
         have n14_ : Aside0 (gb514 ≠ gb534) := ⟨h14_⟩
         have n15_ : Aside0 (gb534 ≠ gb514) := ⟨h15_⟩
         have n16_ : Aside0 (gb522 ≠ gb534) := ⟨h16_⟩
         have n17_ : Aside0 (gb534 ≠ gb522) := ⟨h17_⟩
         have n18_ : Aside0 (Below w.heap.size w w157) := ⟨h18_⟩
         clear HO509
         clear HO512
         clear HO517
         clear HO520
         clear BK503
         clear BK514
         clear BK522
         clear HB
         clear h0_ h1_ h2_ h3_ h4_ h5_ h6_ h7_ h8_ h9_ h10_ h11_ h12_ h13_ h14_ h15_ h16_ h17_ h18_
         have HO509 := n0_
         have HO512 := n1_
         have HO517 := n2_
         have HO520 := n3_
         have HO529 := n4_
         have HO532 := n5_
         have BK503 := n6_
         have BK514 := n7_
         have BK522 := n8_
         have BK534 := n9_
         have GW534 := n10_
         have GE534 := n11_
         have NB503_534 := n12_
         have NB534_503 := n13_
         have NB514_534 := n14_
         have NB534_514 := n15_
         have NB522_534 := n16_
         have NB534_522 := n17_
         have HB := n18_
         clear n0_ n1_ n2_ n3_ n4_ n5_ n6_ n7_ n8_ n9_ n10_ n11_ n12_ n13_ n14_ n15_ n16_ n17_ n18_
         have hHeld : w157.cell? ⟨gb522, 0, none⟩ = some (.slice Ao147 t515.length co147) ∧ w157.cell? ⟨gb522, 1, none⟩ = some (.slice Ao151 t518.length co151) := hS_
         obtain ⟨Ao158, co158, eo158⟩ := Kd.V_slice HO529.out
         (first | subst eo158 | (injection eo158 with f1_ f2_ f3_; have f4_ := f1_.symm; have f5_ := f3_.symm; clear f1_ f2_ f3_; subst f4_; subst f5_))
         obtain ⟨Ao160, co160, eo160⟩ := Kd.V_slice HO532.out
         (first | subst eo160 | (injection eo160 with f1_ f2_ f3_; have f4_ := f1_.symm; have f5_ := f3_.symm; clear f1_ f2_ f3_; subst f4_; subst f5_))
         refine norm_ (a' := ?_) ?_ ?_
         rotate_left
         ·simp only [putAll, Act.put, List.setIfInBounds_toArray, List.set_cons_zero, List.set_cons_succ]
          rfl
         refine one_ (i := 13) (N := none) #[true, true, true, true, true, true, true, true, true, true, true, true, true, true, false] rfl rfl (one_of HT_.out (by kernel_rfl)) (by decide) (fun K hK => ?_)
         have hs159 : w157.cell? ⟨gb534, 0, none⟩ = some (.slice none 0 0) := (xC_ BK534.out 0).trans rfl
         have hfs159 := xF_ BK534.out 0
         have hns159_0 := NB503_534.out
         have hns159_1 := NB514_534.out
         have hns159_2 := NB522_534.out
         have hms159_0 := NB534_503.out
         have hms159_1 := NB534_514.out
         have hms159_2 := NB534_522.out
         have hs161 : w157.cell? ⟨gb534, 1, none⟩ = some (.slice none 0 0) := (xC_ BK534.out 1).trans rfl
         have hfs161 := xF_ BK534.out 1
         have hns161_0 := NB503_534.out
         have hns161_1 := NB514_534.out
         have hns161_2 := NB522_534.out
         have hms161_0 := NB534_503.out
         have hms161_1 := NB534_514.out
         have hms161_2 := NB534_522.out
         refine skip_ (w1 := ?_) (by rfl) rfl ?_ ?_
         rotate_left
         ·go_simp
          rfl
         refine hK.out _ _ ⟨((cell_far (p := ⟨gb534, _, none⟩) NB522_534.out _).trans (((cell_far (p := ⟨gb534, _, none⟩) NB522_534.out _).trans (hHeld.1)))), ((cell_far (p := ⟨gb534, _, none⟩) NB522_534.out _).trans (((cell_far (p := ⟨gb534, _, none⟩) NB522_534.out _).trans (hHeld.2))))⟩ (fun hHeld => ?_)
         clear hK K
         refine pure_ (i := 14) (N := some 12) (v := ?_) (a' := ?_) #[true, true, true, true, true, true, true, true, true, true, true, true, true, true, true] rfl rfl (any_of HT_.out (by kernel_rfl)) (fun _ _ _ h => h) (Or.inl ⟨by rfl, ?_⟩) ?_ ?_
         rotate_left
         ·intro w'
          go_simp
          with_reducible rfl
         rotate_left
         ·simp only [Act.put, List.setIfInBounds_toArray, List.set_cons_zero, List.set_cons_succ, i64_w, i32_w]
          rfl
         refine done_ (done_of HT_.out (by kernel_rfl)) ?_
         have hnb162 := NB514_534.out
         have hnc162 := NB534_514.out
         have hcz163_0 : w157.cell? ⟨gb514, 0, none⟩ = some (.slice Ao139 t507.length co139) := (xC_ BK514.out 0).trans rfl
         have hcz163_1 : w157.cell? ⟨gb514, 1, none⟩ = some (.slice Ao142 t510.length co142) := (xC_ BK514.out 1).trans rfl
         have hfz163_0 := xF_ BK514.out 0
         have hfz163_1 := xF_ BK514.out 1
         have hnb164 := NB503_534.out
         have hnc164 := NB534_503.out
         have hcz165_0 : w157.cell? ⟨gb503, 0, none⟩ = some (.slice A0_0 l0_0.length c0_0) := (xC_ BK503.out 0).trans rfl
         have hcz165_1 : w157.cell? ⟨gb503, 1, none⟩ = some (.slice A0_1 l0_1.length c0_1) := (xC_ BK503.out 1).trans rfl
         have hfz165_0 := xF_ BK503.out 0
         have hfz165_1 := xF_ BK503.out 1
         try go_wp2_with (first | (go_at_call 15; (with_reducible refine (armadaref01_Same.calls kj3 _ _ t507 _ _ t510 _ _ l0_0 _ _ l0_1 true _ ?side1 ?side2 ?side3 ?side4 ?side5 ?side6 ?side7 ?side8 A133.out).mono ?_); (case side1 => refine (Kd.V_reads' (e := 9) (base := w.heap.size) (ok := fun k_ => (k_ ≠ gb503 ∧ (k_ ≠ gb514 ∧ (k_ ≠ gb522 ∧ k_ ≠ gb534)))) (n := t507.length) (c := co139) ?_).2.2; exact (by (with_reducible repeat (first | apply Kd.V_alloc | apply Kd.V_drewN | apply Kd.V_drew)); exact (Kd.V_mono (Kd.V_far (p := ⟨gb534, 1, none⟩) (Kd.V_far (p := ⟨gb534, 0, none⟩) (Kd.V_mono HO509.out (fun k_ hk => (⟨hk, hk.2.2.2⟩ : _ ∧ k_ ≠ gb534))) (fun _ hk => hk.2) (.slice Ao158 t527.length co158)) (fun _ hk => hk.2) (.slice Ao160 t530.length co160)) (fun _ h_ => h_.1)))); (case side2 => exact (Kd.V_reads' HO509.out).2.1); (case side3 => refine (Kd.V_reads' (e := 27) (base := w.heap.size) (ok := fun k_ => (k_ ≠ gb503 ∧ (k_ ≠ gb514 ∧ (k_ ≠ gb522 ∧ k_ ≠ gb534)))) (n := t510.length) (c := co142) ?_).2.2; exact (by (with_reducible repeat (first | apply Kd.V_alloc | apply Kd.V_drewN | apply Kd.V_drew)); exact (Kd.V_mono (Kd.V_far (p := ⟨gb534, 1, none⟩) (Kd.V_far (p := ⟨gb534, 0, none⟩) (Kd.V_mono HO512.out (fun k_ hk => (⟨hk, hk.2.2.2⟩ : _ ∧ k_ ≠ gb534))) (fun _ hk => hk.2) (.slice Ao158 t527.length co158)) (fun _ hk => hk.2) (.slice Ao160 t530.length co160)) (fun _ h_ => h_.1)))); (case side4 => exact (Kd.V_reads' HO512.out).2.1); (case side5 => exact Kd.C_below HR0_0.out (by repeat (first | (with_reducible first | exact HB.out | apply yA_ | apply yN_ | apply yD_ | refine yS_ ?_ GE503.out | refine yS_ ?_ GE514.out | refine yS_ ?_ GE522.out | refine yS_ ?_ GE534.out) | exact HB.out))); (case side6 => exact HC0_0.out); (case side7 => exact Kd.C_below HR0_1.out (by repeat (first | (with_reducible first | exact HB.out | apply yA_ | apply yN_ | apply yD_ | refine yS_ ?_ GE503.out | refine yS_ ?_ GE514.out | refine yS_ ?_ GE522.out | refine yS_ ?_ GE534.out) | exact HB.out))); (case side8 => exact HC0_1.out); rintro e w166 ⟨rfl, hb⟩; have hz_ := zq2 HB gb534 (.slice Ao158 t527.length co158) (.slice Ao160 t530.length co160) (by repeat (first | (with_reducible first | exact Below.refl _ _ | apply yA_ | apply yN_ | apply yD_) | exact Below.refl _ _)) hb; replace hb := below_step hz_ hb; replace HO509 := zF HO509 (fun _ hk => hk.2.2.2) hb; replace HO512 := zF HO512 (fun _ hk => hk.2.2.2) hb; replace HO517 := zF HO517 (fun _ hk => hk.2.2.2) hb; replace HO520 := zF HO520 (fun _ hk => hk.2.2.2) hb; replace HO529 := zF HO529 (fun _ hk => hk.2.2.2) hb; replace HO532 := zF HO532 (fun _ hk => hk.2.2.2) hb; replace BK503 := zBF BK503 NB503_534 hb; replace BK514 := zBF BK514 NB514_534 hb; replace BK522 := zBF BK522 NB522_534 hb; replace BK534 := zBP BK534 hb; replace HB := zHF HB GE534 hb; clear hz_; (try clear hb)) | (go_at_call 10; (with_reducible refine (armadalaw01_live.calls kj3  true _ A135.out).mono ?_); rintro e w167 ⟨rfl, hb⟩; have hz_ := zq HB (by repeat (first | (with_reducible first | exact Below.refl _ _ | apply yA_ | apply yN_ | apply yD_) | exact Below.refl _ _)) hb; replace hb := below_step hz_ hb; replace HO509 := zV HO509 hb; replace HO512 := zV HO512 hb; replace HO517 := zV HO517 hb; replace HO520 := zV HO520 hb; replace HO529 := zV HO529 hb; replace HO532 := zV HO532 hb; replace BK503 := zB BK503 hb; replace BK514 := zB BK514 hb; replace BK522 := zB BK522 hb; replace BK534 := zB BK534 hb; replace HB := zH HB hb; clear hz_; (try clear hb)))
         go_ret
         exact ⟨by first | rfl | (simp [errW_none, errW_some] <;> rfl) | (simp [*, errW_none, errW_some] <;> rfl), by repeat (first | (with_reducible first | exact HB.out | apply yA_ | apply yN_ | apply yD_ | refine yS_ ?_ GE503.out | refine yS_ ?_ GE514.out | refine yS_ ?_ GE522.out | refine yS_ ?_ GE534.out) | exact HB.out)⟩
        ·replace c134 := Bool.eq_false_iff.mpr c134
         subst c134
         have H1 : (some false) = some true := by rw [if_neg (show ¬ (false = true) by decide)] at H; exact H
         clear H
         have H := H1
         clear H1
         exact absurd H (by simp)
     ·rw [if_neg c25] at H
      exact absurd H (by simp)
    ·rw [if_neg c24] at H
     exact absurd H (by simp)
end Go.Proofs.Ytnoafmnjnmlhmaa.P
