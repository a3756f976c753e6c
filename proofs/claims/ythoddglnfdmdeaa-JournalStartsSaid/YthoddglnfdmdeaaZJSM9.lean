/- Printed functions, merged. -/
import Derived.Test.YthoddglnfdmdeaaZJSM0
import Derived.Test.YthoddglnfdmdeaaZJSH3
import Derived.Test.YthoddglnfdmdeaaZJSM7
import Derived.Test.YthoddglnfdmdeaaZJSM6
import Derived.Test.YthoddglnfdmdeaaZJSM8
import Derived.Test.YthoddglnfdmdeaaZJSM5
import Derived.Test.YthoddglnfdmdeaaZJSM1
import Derived.Test.YthoddglnfdmdeaaZJSM3
import Derived.Test.YthoddglnfdmdeaaZJSH6
import Derived.Test.YthoddglnfdmdeaaZJSAl
namespace Go.Proofs.Ythoddglnfdmdeaa.P
open Go.RowKit Go.Proofs.YthoddglnfdmdeaaW.PrintWords Go.Proofs.YthoddglnfdmdeaaW.PrintLast Go.Proofs.YthoddglnfdmdeaaW.PrintMore
attribute [local go_sem] max2_int min2_int max_two min_two max_three min_three max_four min_four   -- for this text's walks alone
set_option linter.unusedVariables false
set_option linter.unusedSimpArgs false
mutual
def armadalaw04_JournalStarts.j0 : Nat → Int → Bool → List ByteArray → List (S29) → Int → Int → Option (Bool)
 | 0, _, _, _, _, _, _ => none
 | k + 1, x2, x26, x517000, x517001, x518000, x518001 => if x26 = true then ((armadalaw04_live.f k).bind fun t520 => (some t520)) else ((journal_Start.f k x518000 x518001 x2).bind fun bt521 => (if x2 ≥ 0 then (armadalaw04_JournalStarts.j1 k x2 bt521.1 bt521.2 ((bt521.2 == 0) != (decide (x2 ≤ 1073741824))) x517000 x517001 x518000 x518001) else (armadalaw04_JournalStarts.j1 k x2 bt521.1 bt521.2 ((bt521.2 == 0) != false) x517000 x517001 x518000 x518001)))
def armadalaw04_JournalStarts.j1 : Nat → Int → List (S85) → Int → Bool → List ByteArray → List (S29) → Int → Int → Option (Bool)
 | 0, _, _, _, _, _, _, _, _ => none
 | k + 1, x2, x7, x8, x42, x517000, x517001, x518000, x518001 => if x42 = true then (some false) else (if x8 = 0 then ((disk_Run.f k x517000 x517001 x7 (x7.length : Int)).bind fun bt526 => ((journal_Open.f k bt526.1 bt526.2.1 x518000 x518001).bind fun bt534 => (if bt526.2.2 = 0 then (if bt534.2.2.2 = 0 then (if bt534.1 = x2 then (armadalaw04_JournalStarts.j2 k x2 ((bt526.2.1.length : Int) != 0) x517000 x517001 x518000 x518001 bt526.1 bt526.2.1 bt534.1 bt534.2.1 bt534.2.2.1) else (armadalaw04_JournalStarts.j2 k x2 true x517000 x517001 x518000 x518001 bt526.1 bt526.2.1 bt534.1 bt534.2.1 bt534.2.2.1)) else (armadalaw04_JournalStarts.j2 k x2 true x517000 x517001 x518000 x518001 bt526.1 bt526.2.1 bt534.1 bt534.2.1 bt534.2.2.1)) else (armadalaw04_JournalStarts.j2 k x2 true x517000 x517001 x518000 x518001 bt526.1 bt526.2.1 bt534.1 bt534.2.1 bt534.2.2.1)))) else ((armadalaw04_live.f k).bind fun t525 => (some t525)))
def armadalaw04_JournalStarts.j2 : Nat → Int → Bool → List ByteArray → List (S29) → Int → Int → List ByteArray → List (S29) → Int → List ByteArray → Int → Option (Bool)
 | 0, _, _, _, _, _, _, _, _, _, _, _ => none
 | k + 1, x2, x77, x517000, x517001, x518000, x518001, x534000, x534001, x541000, x541001, x541002 => if x77 = true then (some false) else (armadalaw04_JournalStarts.l0 k x2 (wrap64 (x518000 + 1)) x517000 x517001 x518000 x518001 x534000 x534001 x541000 x541001 x541002)
def armadalaw04_JournalStarts.l0 : Nat → Int → Int → List ByteArray → List (S29) → Int → Int → List ByteArray → List (S29) → Int → List ByteArray → Int → Option (Bool)
 | 0, _, _, _, _, _, _, _, _, _, _, _ => none
 | k + 1, x2, x13, x517000, x517001, x518000, x518001, x534000, x534001, x541000, x541001, x541002 => if x13 < (wrap64 (x518000 + x518001)) then ((armadaref01_Get.f k x517000 x517001 x13).bind fun bt543 => ((armadaref03_Read.f k bt543.1).bind fun bt545 => (if bt545.2.2.2.2.2 = true then (if bt545.2.1 = x2 then ((armadalaw04_live.f k).bind fun t552 => (some t552)) else (armadalaw04_JournalStarts.l0 k x2 (wrap64 (x13 + 1)) x517000 x517001 x518000 x518001 x534000 x534001 x541000 x541001 x541002)) else (armadalaw04_JournalStarts.l0 k x2 (wrap64 (x13 + 1)) x517000 x517001 x518000 x518001 x534000 x534001 x541000 x541001 x541002)))) else (if (x541001.length : Int) = 0 then (if x541002 = (wrap64 (x518000 + 1)) then ((journal_Clean.f k x534000 x534001 x518000 x518001 x541000 x541001 x541002).bind fun t541 => (if t541 = true then ((armadalaw04_live.f k).bind fun t542 => (some t542)) else (some false))) else (some false)) else (some false))
end
def armadalaw04_JournalStarts.f (k : Nat) (l0_0 : List ByteArray) (l0_1 : List (S29)) (a1_0 : Int) (a1_1 : Int) (a2 : Int) : Option (Bool) := (armadaref01_Small.f k l0_0 l0_1).bind fun t518 => (if t518 = true then ((armadaref04_Lies.f k l0_0 l0_1 a1_0 a1_1).bind fun t519 => (armadalaw04_JournalStarts.j0 k a2 (!t519) l0_0 l0_1 a1_0 a1_1)) else (armadalaw04_JournalStarts.j0 k a2 true l0_0 l0_1 a1_0 a1_1))
theorem armadalaw04_JournalStarts.mono_l : ∀ k, (∀ y0 y1 y2 y3 y4 y5, LeO (armadalaw04_JournalStarts.j0 k y0 y1 y2 y3 y4 y5) (armadalaw04_JournalStarts.j0 (k + 1) y0 y1 y2 y3 y4 y5)) ∧ (∀ y0 y1 y2 y3 y4 y5 y6 y7, LeO (armadalaw04_JournalStarts.j1 k y0 y1 y2 y3 y4 y5 y6 y7) (armadalaw04_JournalStarts.j1 (k + 1) y0 y1 y2 y3 y4 y5 y6 y7)) ∧ (∀ y0 y1 y2 y3 y4 y5 y6 y7 y8 y9 y10, LeO (armadalaw04_JournalStarts.j2 k y0 y1 y2 y3 y4 y5 y6 y7 y8 y9 y10) (armadalaw04_JournalStarts.j2 (k + 1) y0 y1 y2 y3 y4 y5 y6 y7 y8 y9 y10)) ∧ (∀ y0 y1 y2 y3 y4 y5 y6 y7 y8 y9 y10, LeO (armadalaw04_JournalStarts.l0 k y0 y1 y2 y3 y4 y5 y6 y7 y8 y9 y10) (armadalaw04_JournalStarts.l0 (k + 1) y0 y1 y2 y3 y4 y5 y6 y7 y8 y9 y10))
 | 0 => ⟨fun _ _ _ _ _ _ r h => by simp [armadalaw04_JournalStarts.j0] at h, fun _ _ _ _ _ _ _ _ r h => by simp [armadalaw04_JournalStarts.j1] at h, fun _ _ _ _ _ _ _ _ _ _ _ r h => by simp [armadalaw04_JournalStarts.j2] at h, fun _ _ _ _ _ _ _ _ _ _ _ r h => by simp [armadalaw04_JournalStarts.l0] at h⟩
 | k + 1 => by
  obtain ⟨ih0, ih1, ih2, ih3⟩ := armadalaw04_JournalStarts.mono_l k
  refine ⟨?_, ?_, ?_, ?_⟩
  ·intro y0 y1 y2 y3 y4 y5
   unfold armadalaw04_JournalStarts.j0
   repeat' first
   | (with_reducible exact ih0 _ _ _ _ _ _)
   | (with_reducible exact ih1 _ _ _ _ _ _ _ _)
   | (with_reducible exact ih2 _ _ _ _ _ _ _ _ _ _ _)
   | (with_reducible exact ih3 _ _ _ _ _ _ _ _ _ _ _)
   | (with_reducible exact armadalaw04_live.mono _)
   | (with_reducible exact armadaref01_Get.mono _ _ _ _)
   | (with_reducible exact armadaref01_Small.mono _ _ _)
   | (with_reducible exact armadaref03_Read.mono _ _)
   | (with_reducible exact armadaref04_Lies.mono _ _ _ _ _)
   | (with_reducible exact disk_Run.mono _ _ _ _ _)
   | (with_reducible exact journal_Clean.mono _ _ _ _ _ _ _ _)
   | (with_reducible exact journal_Open.mono _ _ _ _ _)
   | (with_reducible exact journal_Start.mono _ _ _ _)
   | (with_reducible exact LeO.refl _)
   | (with_reducible exact LeO.none _)
   | (with_reducible refine LeO.ite ?_ ?_)
   | (with_reducible refine LeO.bind ?_ (fun _ => ?_))
   | exact ih0 _ _ _ _ _ _
   | exact ih1 _ _ _ _ _ _ _ _
   | exact ih2 _ _ _ _ _ _ _ _ _ _ _
   | exact ih3 _ _ _ _ _ _ _ _ _ _ _
   | exact armadalaw04_live.mono _
   | exact armadaref01_Get.mono _ _ _ _
   | exact armadaref01_Small.mono _ _ _
   | exact armadaref03_Read.mono _ _
   | exact armadaref04_Lies.mono _ _ _ _ _
   | exact disk_Run.mono _ _ _ _ _
   | exact journal_Clean.mono _ _ _ _ _ _ _ _
   | exact journal_Open.mono _ _ _ _ _
   | exact journal_Start.mono _ _ _ _
   | exact LeO.none _
   | refine LeO.ite ?_ ?_
   | refine LeO.bind ?_ (fun _ => ?_)
  ·intro y0 y1 y2 y3 y4 y5 y6 y7
   unfold armadalaw04_JournalStarts.j1
   repeat' first
   | (with_reducible exact ih0 _ _ _ _ _ _)
   | (with_reducible exact ih1 _ _ _ _ _ _ _ _)
   | (with_reducible exact ih2 _ _ _ _ _ _ _ _ _ _ _)
   | (with_reducible exact ih3 _ _ _ _ _ _ _ _ _ _ _)
   | (with_reducible exact armadalaw04_live.mono _)
   | (with_reducible exact armadaref01_Get.mono _ _ _ _)
   | (with_reducible exact armadaref01_Small.mono _ _ _)
   | (with_reducible exact armadaref03_Read.mono _ _)
   | (with_reducible exact armadaref04_Lies.mono _ _ _ _ _)
   | (with_reducible exact disk_Run.mono _ _ _ _ _)
   | (with_reducible exact journal_Clean.mono _ _ _ _ _ _ _ _)
   | (with_reducible exact journal_Open.mono _ _ _ _ _)
   | (with_reducible exact journal_Start.mono _ _ _ _)
   | (with_reducible exact LeO.refl _)
   | (with_reducible exact LeO.none _)
   | (with_reducible refine LeO.ite ?_ ?_)
   | (with_reducible refine LeO.bind ?_ (fun _ => ?_))
   | exact ih0 _ _ _ _ _ _
   | exact ih1 _ _ _ _ _ _ _ _
   | exact ih2 _ _ _ _ _ _ _ _ _ _ _
   | exact ih3 _ _ _ _ _ _ _ _ _ _ _
   | exact armadalaw04_live.mono _
   | exact armadaref01_Get.mono _ _ _ _
   | exact armadaref01_Small.mono _ _ _
   | exact armadaref03_Read.mono _ _
   | exact armadaref04_Lies.mono _ _ _ _ _
   | exact disk_Run.mono _ _ _ _ _
   | exact journal_Clean.mono _ _ _ _ _ _ _ _
   | exact journal_Open.mono _ _ _ _ _
   | exact journal_Start.mono _ _ _ _
   | exact LeO.none _
   | refine LeO.ite ?_ ?_
   | refine LeO.bind ?_ (fun _ => ?_)
  ·intro y0 y1 y2 y3 y4 y5 y6 y7 y8 y9 y10
   unfold armadalaw04_JournalStarts.j2
   repeat' first
   | (with_reducible exact ih0 _ _ _ _ _ _)
   | (with_reducible exact ih1 _ _ _ _ _ _ _ _)
   | (with_reducible exact ih2 _ _ _ _ _ _ _ _ _ _ _)
   | (with_reducible exact ih3 _ _ _ _ _ _ _ _ _ _ _)
   | (with_reducible exact armadalaw04_live.mono _)
   | (with_reducible exact armadaref01_Get.mono _ _ _ _)
   | (with_reducible exact armadaref01_Small.mono _ _ _)
   | (with_reducible exact armadaref03_Read.mono _ _)
   | (with_reducible exact armadaref04_Lies.mono _ _ _ _ _)
   | (with_reducible exact disk_Run.mono _ _ _ _ _)
   | (with_reducible exact journal_Clean.mono _ _ _ _ _ _ _ _)
   | (with_reducible exact journal_Open.mono _ _ _ _ _)
   | (with_reducible exact journal_Start.mono _ _ _ _)
   | (with_reducible exact LeO.refl _)
   | (with_reducible exact LeO.none _)
   | (with_reducible refine LeO.ite ?_ ?_)
   | (with_reducible refine LeO.bind ?_ (fun _ => ?_))
   | exact ih0 _ _ _ _ _ _
   | exact ih1 _ _ _ _ _ _ _ _
   | exact ih2 _ _ _ _ _ _ _ _ _ _ _
   | exact ih3 _ _ _ _ _ _ _ _ _ _ _
   | exact armadalaw04_live.mono _
   | exact armadaref01_Get.mono _ _ _ _
   | exact armadaref01_Small.mono _ _ _
   | exact armadaref03_Read.mono _ _
   | exact armadaref04_Lies.mono _ _ _ _ _
   | exact disk_Run.mono _ _ _ _ _
   | exact journal_Clean.mono _ _ _ _ _ _ _ _
   | exact journal_Open.mono _ _ _ _ _
   | exact journal_Start.mono _ _ _ _
   | exact LeO.none _
   | refine LeO.ite ?_ ?_
   | refine LeO.bind ?_ (fun _ => ?_)
  ·intro y0 y1 y2 y3 y4 y5 y6 y7 y8 y9 y10
   unfold armadalaw04_JournalStarts.l0
   repeat' first
   | (with_reducible exact ih0 _ _ _ _ _ _)
   | (with_reducible exact ih1 _ _ _ _ _ _ _ _)
   | (with_reducible exact ih2 _ _ _ _ _ _ _ _ _ _ _)
   | (with_reducible exact ih3 _ _ _ _ _ _ _ _ _ _ _)
   | (with_reducible exact armadalaw04_live.mono _)
   | (with_reducible exact armadaref01_Get.mono _ _ _ _)
   | (with_reducible exact armadaref01_Small.mono _ _ _)
   | (with_reducible exact armadaref03_Read.mono _ _)
   | (with_reducible exact armadaref04_Lies.mono _ _ _ _ _)
   | (with_reducible exact disk_Run.mono _ _ _ _ _)
   | (with_reducible exact journal_Clean.mono _ _ _ _ _ _ _ _)
   | (with_reducible exact journal_Open.mono _ _ _ _ _)
   | (with_reducible exact journal_Start.mono _ _ _ _)
   | (with_reducible exact LeO.refl _)
   | (with_reducible exact LeO.none _)
   | (with_reducible refine LeO.ite ?_ ?_)
   | (with_reducible refine LeO.bind ?_ (fun _ => ?_))
   | exact ih0 _ _ _ _ _ _
   | exact ih1 _ _ _ _ _ _ _ _
   | exact ih2 _ _ _ _ _ _ _ _ _ _ _
   | exact ih3 _ _ _ _ _ _ _ _ _ _ _
   | exact armadalaw04_live.mono _
   | exact armadaref01_Get.mono _ _ _ _
   | exact armadaref01_Small.mono _ _ _
   | exact armadaref03_Read.mono _ _
   | exact armadaref04_Lies.mono _ _ _ _ _
   | exact disk_Run.mono _ _ _ _ _
   | exact journal_Clean.mono _ _ _ _ _ _ _ _
   | exact journal_Open.mono _ _ _ _ _
   | exact journal_Start.mono _ _ _ _
   | exact LeO.none _
   | refine LeO.ite ?_ ?_
   | refine LeO.bind ?_ (fun _ => ?_)
theorem armadalaw04_JournalStarts.mono : ∀ a0 a1 a2 a3 a4 k, LeO (armadalaw04_JournalStarts.f k a0 a1 a2 a3 a4) (armadalaw04_JournalStarts.f (k + 1) a0 a1 a2 a3 a4) := by
 intro a0 a1 a2 a3 a4 k
 obtain ⟨ih0, ih1, ih2, ih3⟩ := armadalaw04_JournalStarts.mono_l k
 unfold armadalaw04_JournalStarts.f
 repeat' first
   | (with_reducible exact ih0 _ _ _ _ _ _)
   | (with_reducible exact ih1 _ _ _ _ _ _ _ _)
   | (with_reducible exact ih2 _ _ _ _ _ _ _ _ _ _ _)
   | (with_reducible exact ih3 _ _ _ _ _ _ _ _ _ _ _)
   | (with_reducible exact armadalaw04_live.mono _)
   | (with_reducible exact armadaref01_Get.mono _ _ _ _)
   | (with_reducible exact armadaref01_Small.mono _ _ _)
   | (with_reducible exact armadaref03_Read.mono _ _)
   | (with_reducible exact armadaref04_Lies.mono _ _ _ _ _)
   | (with_reducible exact disk_Run.mono _ _ _ _ _)
   | (with_reducible exact journal_Clean.mono _ _ _ _ _ _ _ _)
   | (with_reducible exact journal_Open.mono _ _ _ _ _)
   | (with_reducible exact journal_Start.mono _ _ _ _)
   | (with_reducible exact LeO.refl _)
   | (with_reducible exact LeO.none _)
   | (with_reducible refine LeO.ite ?_ ?_)
   | (with_reducible refine LeO.bind ?_ (fun _ => ?_))
   | exact ih0 _ _ _ _ _ _
   | exact ih1 _ _ _ _ _ _ _ _
   | exact ih2 _ _ _ _ _ _ _ _ _ _ _
   | exact ih3 _ _ _ _ _ _ _ _ _ _ _
   | exact armadalaw04_live.mono _
   | exact armadaref01_Get.mono _ _ _ _
   | exact armadaref01_Small.mono _ _ _
   | exact armadaref03_Read.mono _ _
   | exact armadaref04_Lies.mono _ _ _ _ _
   | exact disk_Run.mono _ _ _ _ _
   | exact journal_Clean.mono _ _ _ _ _ _ _ _
   | exact journal_Open.mono _ _ _ _ _
   | exact journal_Start.mono _ _ _ _
   | exact LeO.none _
   | refine LeO.ite ?_ ?_
   | refine LeO.bind ?_ (fun _ => ?_)
set_option maxHeartbeats 8000000 in
set_option maxRecDepth 100000 in
theorem armadalaw04_JournalStarts.calls (k : Nat) (A0_0 : Option Addr) (c0_0 : Nat) (l0_0 : List ByteArray) (A0_1 : Option Addr) (c0_1 : Nat) (l0_1 : List (S29)) (a1_0 : Int) (a1_1 : Int) (a2 : Int) (r : Bool) (w : World) (hr0_0 : Kd.C Kd.string w A0_0 l0_0.length l0_0) (hc0_0 : l0_0.length ≤ c0_0) (hr0_1 : Kd.C k29 w A0_1 l0_1.length l0_1) (hc0_1 : l0_1.length ≤ c0_1) (h : armadalaw04_JournalStarts.f k l0_0 l0_1 a1_0 a1_1 a2 = some r) (hT_ : r = true := by rfl) :
  Calls Try.prog 4 #[.agg #[.slice A0_0 l0_0.length c0_0, .slice A0_1 l0_1.length c0_1], .agg #[.int .i64 a1_0, .int .i64 a1_1], .int .i64 a2] w fun e w' => e = .returned (.bool r) ∧ Below w.heap.size w w' := by
 subst hT_
 have hu25 := Try.underlying25
 have hu27 := Try.underlying27
 have hu37 := Try.underlying37
 have hu53 := Try.underlying53
 have HR0_0 := Aside0.mk hr0_0
 have HC0_0 := Aside0.mk hc0_0
 clear hr0_0 hc0_0
 have HR0_1 := Aside0.mk hr0_1
 have HC0_1 := Aside0.mk hc0_1
 clear hr0_1 hc0_1
 have HB := Aside0.mk (Below.refl w.heap.size w)
 have H := h
 unfold armadalaw04_JournalStarts.f at H
 clear h
 have HC4 := Aside0.mk H
 clear H
 go_enter Try.func4, Try.ntmps4
 go_upto_region 1 with (first | ((with_reducible refine gate_dst (N := 3) rfl ?_); (try (refine gate_guard (by rfl) ?_; dsimp only)); refine bE (N := 3) (cs := #[.slice A0_0 l0_0.length c0_0, .slice A0_1 l0_1.length c0_1]) (t := 25) ?_; intro gb516 hg w5 hbox hb; have hz_ := zqA HB hb; replace hb := below_step hz_ hb; have BK516 := Aside0.mk hbox; have GW516 := zG HB hz_ hg; have GE516 := zG HB hz_ hg; replace HB := zH HB hb; clear hz_; clear hb hbox hg) | ((with_reducible refine gate_dst (N := 4) rfl ?_); (try (refine gate_guard (by rfl) ?_; dsimp only)); refine bE (N := 4) (cs := #[.int .i64 a1_0, .int .i64 a1_1]) (t := 27) ?_; intro gb517 hg w6 hbox hb; have hz_ := zqA HB hb; replace hb := below_step hz_ hb; have BK517 := Aside0.mk hbox; have GW517 := zG HB hz_ hg; have GE517 := zG HB hz_ hg; have NB516_517 := zN BK516 hz_ hg; have NB517_516 := zM BK516 hz_ hg; replace BK516 := zB BK516 hb; replace HB := zH HB hb; clear hz_; clear hb hbox hg))
 (try simp only [Act.put, List.setIfInBounds_toArray, List.set_cons_zero, List.set_cons_succ])
 go_cut [26] (fun v26 wc => ∃ (kq : Nat) (x26_3 : Bool), v26 = .bool x26_3 ∧ Aside0 (armadalaw04_JournalStarts.j0 kq a2 x26_3 l0_0 l0_1 a1_0 a1_1 = some true) ∧ Aside0 (kq ≤ k) ∧ Aside0 (wc.heap[gb516]? = some (.cells #[(.slice A0_0 l0_0.length c0_0), (.slice A0_1 l0_1.length c0_1)] 25 (0, 0))) ∧ Aside0 (wc.heap[gb517]? = some (.cells #[.int .i64 a1_0, .int .i64 a1_1] 27 (0, 0))) ∧ Aside0 (Below w.heap.size w wc))
 case first =>
  have H := HC4.out
  clear HC4
  replace H := Option.bind_eq_some_iff.mp H
  obtain ⟨t518, A70, H⟩ := H
  try dsimp only at H
  have A7 := Aside0.mk A70
  clear A70
  by_cases c8 : t518 = true
  ·subst c8
   rw [if_pos rfl] at H
   replace H := Option.bind_eq_some_iff.mp H
   obtain ⟨t519, A90, H⟩ := H
   try dsimp only at H
   have A9 := Aside0.mk A90
   clear A90
   have H' := Aside0.mk H
   clear H
   obtain ⟨hnb10, hnc10⟩ := nn_ NB516_517
   obtain ⟨hcz11_0, hcz11_1, hfz11_0, hfz11_1⟩ := e2_ BK516
   go_wp2_with (first | ((with_reducible refine gate_callee (f := 7) rfl ?_); refine gL (some 19) Try.func7 #[.agg #[.slice A0_0 l0_0.length c0_0, .slice A0_1 l0_1.length c0_1]] ?_; (with_reducible refine (armadaref01_Small.calls k _ _ l0_0 _ _ l0_1 true _ ?side1 ?side2 ?side3 ?side4 A7.out).mono ?_); (case side1 => exact qC HR0_0); (case side2 => exact HC0_0.out); (case side3 => exact qC HR0_1); (case side4 => exact HC0_1.out); rintro e w12 ⟨rfl, hb⟩; refine ⟨_, rfl, ?_⟩; have hz_ := zqA HB hb; replace hb := below_step hz_ hb; replace BK516 := zB BK516 hb; replace BK517 := zB BK517 hb; replace HB := zH HB hb; clear hz_; (try clear hb); obtain ⟨hcz13_0, hcz13_1, hfz13_0, hfz13_1⟩ := e2_ BK516; obtain ⟨hcz14_0, hcz14_1, hfz14_0, hfz14_1⟩ := e2_ BK517) | (go_at_call 8; (with_reducible refine (armadaref04_Lies.calls k _ _ l0_0 _ _ l0_1 a1_0 a1_1 t519 _ ?side1 ?side2 ?side3 ?side4 A9.out).mono ?_); (case side1 => exact qC HR0_0); (case side2 => exact HC0_0.out); (case side3 => exact qC HR0_1); (case side4 => exact HC0_1.out); rintro e w15 ⟨rfl, hb⟩; have hz_ := zqA HB hb; replace hb := below_step hz_ hb; replace BK516 := zB BK516 hb; replace BK517 := zB BK517 hb; replace HB := zH HB hb; clear hz_; (try clear hb)))
   go_meet
   case rel => exact ⟨_, (!t519), eY, H', ⟨by first | omega | exact Nat.le_refl _⟩, ⟨qB BK516⟩, ⟨qB BK517⟩, ⟨qH⟩⟩
  ·replace c8 := Bool.eq_false_iff.mpr c8
   subst c8
   rw [if_neg nF_] at H
   have H' := Aside0.mk H
   clear H
   obtain ⟨hnb16, hnc16⟩ := nn_ NB516_517
   obtain ⟨hcz17_0, hcz17_1, hfz17_0, hfz17_1⟩ := e2_ BK516
   go_wp2_with (first | ((with_reducible refine gate_callee (f := 7) rfl ?_); refine gL (some 19) Try.func7 #[.agg #[.slice A0_0 l0_0.length c0_0, .slice A0_1 l0_1.length c0_1]] ?_; (with_reducible refine (armadaref01_Small.calls k _ _ l0_0 _ _ l0_1 false _ ?side1 ?side2 ?side3 ?side4 A7.out).mono ?_); (case side1 => exact qC HR0_0); (case side2 => exact HC0_0.out); (case side3 => exact qC HR0_1); (case side4 => exact HC0_1.out); rintro e w18 ⟨rfl, hb⟩; refine ⟨_, rfl, ?_⟩; have hz_ := zqA HB hb; replace hb := below_step hz_ hb; replace BK516 := zB BK516 hb; replace BK517 := zB BK517 hb; replace HB := zH HB hb; clear hz_; (try clear hb)))
   go_meet
   case rel => exact ⟨_, (true), eY, H', ⟨by first | omega | exact Nat.le_refl _⟩, ⟨qB BK516⟩, ⟨qB BK517⟩, ⟨qH⟩⟩
 case rest =>
  clear HC4
  (try clear p2)
  obtain ⟨kq, x26_3, rfl, HA, HJ3, BK516, BK517, HB⟩ := hcut
  cases kq with
  | zero => exact absurd HA.out (by simp [armadalaw04_JournalStarts.j0])
  | succ kj3 =>
   have H := HA.out
   clear HA
   simp only [armadalaw04_JournalStarts.j0] at H
   by_cases c19 : x26_3 = true
   ·subst c19
    rw [if_pos rfl] at H
    replace H := Option.bind_eq_some_iff.mp H
    obtain ⟨t520, A200, H⟩ := H
    try dsimp only at H
    have A20 := Aside0.mk A200
    clear A200
    obtain rfl := Option.some.inj H
    go_wp2_with (first | ((with_reducible refine gate_callee (f := 9) rfl ?_); refine gL (some 27) Try.func9 #[] ?_; (with_reducible refine (armadalaw04_live.calls kj3  true _ A20.out).mono ?_); rintro e w21 ⟨rfl, hb⟩; refine ⟨_, rfl, ?_⟩; have hz_ := zqA HB hb; replace hb := below_step hz_ hb; replace BK516 := zB BK516 hb; replace BK517 := zB BK517 hb; replace HB := zH HB hb; clear hz_; (try clear hb)))
    go_ret
    exact ⟨eX, qH⟩
   ·replace c19 := Bool.eq_false_iff.mpr c19
    subst c19
    rw [if_neg nF_] at H
    replace H := Option.bind_eq_some_iff.mp H
    obtain ⟨⟨t521, t524⟩, A220, H⟩ := H
    try dsimp only at H
    have A22 := Aside0.mk A220
    clear A220
    have HC23 := Aside0.mk H
    clear H
    obtain ⟨hnb24, hnc24⟩ := nn_ NB517_516
    obtain ⟨hcz25_0, hcz25_1, hfz25_0, hfz25_1⟩ := e2_ BK517
    go_upto_region 4 with (first | ((with_reducible refine gate_callee (f := 15) rfl ?_); refine gL (some 31) Try.func15 #[.agg #[.int .i64 a1_0, .int .i64 a1_1], .int .i64 a2] ?_; (with_reducible refine (journal_Start.calls kj3 a1_0 a1_1 a2 t521 t524 _ A22.out).mono ?_); rintro e w26 ⟨v522, rfl, ho0, hb⟩; refine ⟨_, rfl, ?_⟩; have HO523 := Aside0.mk (Kd.R_lower ho0 (below_size qH)); replace BK516 := wB BK516 hb; replace BK517 := wB BK517 hb; replace HB := wH hb; (try clear hb); (try clear ho0)))
    (try simp only [Act.put, List.setIfInBounds_toArray, List.set_cons_zero, List.set_cons_succ])
    go_cut [42] (fun v42 wc => ∃ (kq : Nat) (x42_22 : Bool), v42 = .bool x42_22 ∧ Aside0 (armadalaw04_JournalStarts.j1 kq a2 t521 t524 x42_22 l0_0 l0_1 a1_0 a1_1 = some true) ∧ Aside0 (kq ≤ kj3) ∧ Aside0 (Kd.R k85 85 wc w.heap.size (fun _ => True) v522 t521) ∧ Aside0 (wc.heap[gb516]? = some (.cells #[(.slice A0_0 l0_0.length c0_0), (.slice A0_1 l0_1.length c0_1)] 25 (0, 0))) ∧ Aside0 (wc.heap[gb517]? = some (.cells #[.int .i64 a1_0, .int .i64 a1_1] 27 (0, 0))) ∧ Aside0 (Below w.heap.size w wc))
    case first =>
     have H := HC23.out
     clear HC23
     by_cases c27 : a2 ≥ 0
     ·rw [if_pos c27] at H
      have c27b0 : decide (0 ≤ a2) = true := decide_eq_true c27
      clear c27
      (first | rw [c27b0] | (simp only [i64_w, i32_w]; rw [c27b0]) | skip)
      have H' := Aside0.mk H
      clear H
      go_wp2
      go_meet
      case rel => exact ⟨_, (((t524 == 0) != (decide (a2 ≤ 1073741824)))), eY, H', ⟨by have := HJ3.out; first | omega | exact Nat.le_refl _⟩, ⟨qR HO523.out⟩, ⟨qB BK516⟩, ⟨qB BK517⟩, ⟨qH⟩⟩
     ·rw [if_neg c27] at H
      have c27b0 : decide (0 ≤ a2) = false := decide_eq_false c27
      clear c27
      (first | rw [c27b0] | (simp only [i64_w, i32_w]; rw [c27b0]) | skip)
      have H' := Aside0.mk H
      clear H
      go_wp2
      go_meet
      case rel => exact ⟨_, (((t524 == 0) != false)), eY, H', ⟨by have := HJ3.out; first | omega | exact Nat.le_refl _⟩, ⟨qR HO523.out⟩, ⟨qB BK516⟩, ⟨qB BK517⟩, ⟨qH⟩⟩
    case rest =>
     clear HC23
     (try clear p2); (try clear c19); (try clear hcz25_0); (try clear hcz25_1); (try clear hfz25_0); (try clear hfz25_1); (try clear p2)
     obtain ⟨kq, x42_22, rfl, HA, HJ22, HO_7, BK516, BK517, HB⟩ := hcut
     cases kq with
     | zero => exact absurd HA.out (by simp [armadalaw04_JournalStarts.j1])
     | succ kj22 =>
      have H := HA.out
      clear HA
      simp only [armadalaw04_JournalStarts.j1] at H
      by_cases c28 : x42_22 = true
      ·subst c28
       rw [if_pos rfl] at H
       exact absurd H (by simp)
      ·replace c28 := Bool.eq_false_iff.mpr c28
       subst c28
       rw [if_neg nF_] at H
       by_cases c29 : t524 = 0
       ·rw [if_pos c29] at H
        have c29b0 : (t524 == 0) = true := beq_iff_eq.mpr c29
        have c29b1 : (t524 != 0) = false := bne_eq_false_iff_eq.mpr c29
        clear c29
        replace H := Option.bind_eq_some_iff.mp H
        obtain ⟨⟨t526, t529, t532⟩, A300, H⟩ := H
        try dsimp only at H
        have A30 := Aside0.mk A300
        clear A300
        replace H := Option.bind_eq_some_iff.mp H
        obtain ⟨⟨t534, t535, t538, t539⟩, A310, H⟩ := H
        try dsimp only at H
        have A31 := Aside0.mk A310
        clear A310
        have HC32 := Aside0.mk H
        clear H
        obtain ⟨hnb33, hnc33⟩ := nn_ NB516_517
        obtain ⟨hcz34_0, hcz34_1, hfz34_0, hfz34_1⟩ := e2_ BK516
        obtain ⟨Ao35, co35, eo35⟩ := Kd.R_slice HO_7.out
        subst eo35
        go_upto_region 10 with (first | ((with_reducible refine gate_callee (f := 16) rfl ?_); refine gL (some 51) Try.func16 #[.agg #[.slice A0_0 l0_0.length c0_0, .slice A0_1 l0_1.length c0_1], .slice Ao35 t521.length co35, .int .i64 (t521.length : Int)] ?_; (with_reducible refine (disk_Run.calls kj22 (fun k_ => k_ < w.heap.size) _ _ l0_0 (fun k_ => k_ < w.heap.size) _ _ l0_1 _ _ t521 (t521.length : Int) t526 t529 t532 _ ?side1 ?side2 ?side3 ?side4 A30.out).mono ?_); (case side1 => exact Kd.V_mk HC0_0.out (Kd.F_below (Kd.C_F Kd.heap_string HR0_0.out) qH)); (case side2 => exact Kd.V_mk HC0_1.out (Kd.F_below (Kd.C_F k29_heap HR0_1.out) qH)); (case side3 => exact qK (Kd.R_reads' HO_7.out).2.2); (case side4 => exact (Kd.R_reads' HO_7.out).2.1); rintro e w36 ⟨v527, v530, rfl, ho0, ho1, hb⟩; refine ⟨_, rfl, ?_⟩; have HO528 := Aside0.mk (Kd.V_lower (Kd.V_mono (ok' := fun k_ => some k_ ≠ (.slice Ao35 t521.length co35 : Value).ownBlock ∧ k_ ≠ gb516 ∧ k_ ≠ gb517) ho0 (fun k_ hk_ => ⟨Or.elim hk_ (fun hs_ => Or.elim hs_ (fun hs_ => fun e_ => Nat.not_le.2 hs_ (Kd.R_base HO_7.out k_ e_.symm)) (fun hs_ => fun e_ => Nat.not_le.2 hs_ (Kd.R_base HO_7.out k_ e_.symm))) (fun hn_ => (Kd.fresh' (Kd.R_lt (qR HO_7.out)) k_ hn_)), Or.elim hk_ (fun hs_ => Or.elim hs_ (fun hs_ => fun e_ => Nat.not_le.2 hs_ (by rw [e_]; exact GW516.out)) (fun hs_ => fun e_ => Nat.not_le.2 hs_ (by rw [e_]; exact GW516.out))) (fun hn_ => (Kd.freshB (g := gb516) (o := .cells #[.slice A0_0 l0_0.length c0_0, .slice A0_1 l0_1.length c0_1] 25 (0, 0)) (qB BK516) k_ hn_)), Or.elim hk_ (fun hs_ => Or.elim hs_ (fun hs_ => fun e_ => Nat.not_le.2 hs_ (by rw [e_]; exact GW517.out)) (fun hs_ => fun e_ => Nat.not_le.2 hs_ (by rw [e_]; exact GW517.out))) (fun hn_ => (Kd.freshB (g := gb517) (o := .cells #[.int .i64 a1_0, .int .i64 a1_1] 27 (0, 0)) (qB BK517) k_ hn_))⟩)) (below_size qH)); have HO531 := Aside0.mk (Kd.V_lower (Kd.V_mono (ok' := fun k_ => some k_ ≠ (.slice Ao35 t521.length co35 : Value).ownBlock ∧ k_ ≠ gb516 ∧ k_ ≠ gb517) ho1 (fun k_ hk_ => ⟨Or.elim hk_ (fun hs_ => Or.elim hs_ (fun hs_ => fun e_ => Nat.not_le.2 hs_ (Kd.R_base HO_7.out k_ e_.symm)) (fun hs_ => fun e_ => Nat.not_le.2 hs_ (Kd.R_base HO_7.out k_ e_.symm))) (fun hn_ => (Kd.fresh' (Kd.R_lt (qR HO_7.out)) k_ hn_)), Or.elim hk_ (fun hs_ => Or.elim hs_ (fun hs_ => fun e_ => Nat.not_le.2 hs_ (by rw [e_]; exact GW516.out)) (fun hs_ => fun e_ => Nat.not_le.2 hs_ (by rw [e_]; exact GW516.out))) (fun hn_ => (Kd.freshB (g := gb516) (o := .cells #[.slice A0_0 l0_0.length c0_0, .slice A0_1 l0_1.length c0_1] 25 (0, 0)) (qB BK516) k_ hn_)), Or.elim hk_ (fun hs_ => Or.elim hs_ (fun hs_ => fun e_ => Nat.not_le.2 hs_ (by rw [e_]; exact GW517.out)) (fun hs_ => fun e_ => Nat.not_le.2 hs_ (by rw [e_]; exact GW517.out))) (fun hn_ => (Kd.freshB (g := gb517) (o := .cells #[.int .i64 a1_0, .int .i64 a1_1] 27 (0, 0)) (qB BK517) k_ hn_))⟩)) (below_size qH)); replace BK516 := wB BK516 hb; replace BK517 := wB BK517 hb; replace HB := wH hb; (try clear hb); (try clear ho0); (try clear ho1)) | ((with_reducible refine gate_dst (N := 9) rfl ?_); (try (refine gate_guard (by rfl) ?_; dsimp only)); refine bE (N := 9) (cs := #[.slice none 0 0, .slice none 0 0]) (t := 25) ?_; intro gb533 hg w37 hbox hb; have hz_ := zqA HB hb; replace hb := below_step hz_ hb; replace HO528 := zE HO528 hz_ hg hb; replace HO531 := zE HO531 hz_ hg hb; have BK533 := Aside0.mk hbox; have GE533 := zG HB hz_ hg; have NB516_533 := zN BK516 hz_ hg; have NB533_516 := zM BK516 hz_ hg; have NB517_533 := zN BK517 hz_ hg; have NB533_517 := zM BK517 hz_ hg; replace BK516 := zB BK516 hb; replace BK517 := zB BK517 hb; replace HB := zH HB hb; clear hz_; clear hb hbox hg; obtain ⟨Ao38, co38, eo38⟩ := Kd.V_slice HO528.out; subst eo38; obtain ⟨hnb39, hnc39⟩ := nn_ NB533_516; obtain ⟨hnb40, hnc40⟩ := nn_ NB533_517; obtain ⟨hcz41_0, hcz41_1, hfz41_0, hfz41_1⟩ := e2_ BK533; obtain ⟨Ao42, co42, eo42⟩ := Kd.V_slice HO531.out; subst eo42; obtain ⟨hcz43_0, hcz43_1, hfz43_0, hfz43_1⟩ := e2_ BK517) | ((with_reducible refine gate_callee (f := 11) rfl ?_); refine gL (some 57) Try.func11 #[.agg #[.slice Ao38 t526.length co38, .slice Ao42 t529.length co42], .agg #[.int .i64 a1_0, .int .i64 a1_1]] ?_; (with_reducible refine (journal_Open.calls kj22 _ _ t526 _ _ t529 a1_0 a1_1 t534 t535 t538 t539 _ ?side1 ?side2 ?side3 ?side4 A31.out).mono ?_); (case side1 => refine (Kd.V_reads' (e := 9) (base := w.heap.size) (ok := fun k_ => ((some k_ ≠ (.slice Ao35 t521.length co35 : Value).ownBlock ∧ (k_ ≠ gb516 ∧ k_ ≠ gb517)) ∧ k_ ≠ gb533)) (n := t526.length) (c := co38) ?_).2.2; exact (qV (vF2 HO528.out (fun _ hk => hk.2)))); (case side2 => exact (Kd.V_reads' HO528.out).2.1); (case side3 => refine (Kd.V_reads' (e := 29) (base := w.heap.size) (ok := fun k_ => ((some k_ ≠ (.slice Ao35 t521.length co35 : Value).ownBlock ∧ (k_ ≠ gb516 ∧ k_ ≠ gb517)) ∧ k_ ≠ gb533)) (n := t529.length) (c := co42) ?_).2.2; exact (qV (vF2 HO531.out (fun _ hk => hk.2)))); (case side4 => exact (Kd.V_reads' HO531.out).2.1); rintro e w44 ⟨v536, rfl, ho0, hb⟩; refine ⟨_, rfl, ?_⟩; replace HO528 := Aside0.mk (Kd.V_elder' (qV (vF2 HO528.out (fun _ hk => hk.2))) (Kd.R_base ho0) hb); replace HO531 := Aside0.mk (Kd.V_elder' (qV (vF2 HO531.out (fun _ hk => hk.2))) (Kd.R_base ho0) hb); have HO537 := Aside0.mk (Kd.R_lower ho0 (below_size qH)); replace BK516 := wF BK516 hb; replace BK517 := wF BK517 hb; replace BK533 := wP2 BK533 hb; replace HB := wH hb; (try clear hb); (try clear ho0)) | ((with_reducible refine gate_dst (N := 11) rfl ?_); (try (refine gate_guard (by rfl) ?_; dsimp only)); refine bE (N := 11) (cs := #[.int .i64 0, .slice none 0 0, .int .i64 0]) (t := 37) ?_; intro gb540 hg w45 hbox hb; have hz_ := zqA HB hb; replace hb := below_step hz_ hb; replace HO528 := zE HO528 hz_ hg hb; replace HO531 := zE HO531 hz_ hg hb; replace HO537 := zR HO537 hb; have BK540 := Aside0.mk hbox; have GE540 := zG HB hz_ hg; have NB516_540 := zN BK516 hz_ hg; have NB540_516 := zM BK516 hz_ hg; have NB517_540 := zN BK517 hz_ hg; have NB540_517 := zM BK517 hz_ hg; have NB533_540 := zN BK533 hz_ hg; have NB540_533 := zM BK533 hz_ hg; replace BK516 := zB BK516 hb; replace BK517 := zB BK517 hb; replace BK533 := zB BK533 hb; replace HB := zH HB hb; clear hz_; clear hb hbox hg; obtain ⟨hnb46, hnc46⟩ := nn_ NB540_516; obtain ⟨hnb47, hnc47⟩ := nn_ NB540_517; obtain ⟨hnb48, hnc48⟩ := nn_ NB540_533; obtain ⟨hcz49_0, hcz49_1, hcz49_2, hfz49_0, hfz49_1, hfz49_2⟩ := e3_ BK540; obtain ⟨Ao50, co50, eo50⟩ := Kd.R_slice HO537.out; subst eo50))
        (try simp only [Act.put, List.setIfInBounds_toArray, List.set_cons_zero, List.set_cons_succ])
        go_cut [77] (fun v77 wc => ∃ (kq : Nat) (x77_31 : Bool), v77 = .bool x77_31 ∧ Aside0 (armadalaw04_JournalStarts.j2 kq a2 x77_31 l0_0 l0_1 a1_0 a1_1 t526 t529 t534 t535 t538 = some true) ∧ Aside0 (kq ≤ kj22) ∧ Aside0 (Kd.V Kd.string 9 wc w.heap.size (fun k_ => some k_ ≠ ((.slice Ao50 t535.length co50) : Value).ownBlock ∧ k_ ≠ gb516 ∧ k_ ≠ gb517 ∧ k_ ≠ gb533 ∧ k_ ≠ gb540) (.slice Ao38 t526.length co38) t526) ∧ Aside0 (Kd.V k29 29 wc w.heap.size (fun k_ => some k_ ≠ ((.slice Ao50 t535.length co50) : Value).ownBlock ∧ k_ ≠ gb516 ∧ k_ ≠ gb517 ∧ k_ ≠ gb533 ∧ k_ ≠ gb540) (.slice Ao42 t529.length co42) t529) ∧ Aside0 (Kd.R Kd.string 9 wc w.heap.size (fun _ => True) (.slice Ao50 t535.length co50) t535) ∧ Aside0 (wc.heap[gb516]? = some (.cells #[(.slice A0_0 l0_0.length c0_0), (.slice A0_1 l0_1.length c0_1)] 25 (0, 0))) ∧ Aside0 (wc.heap[gb517]? = some (.cells #[.int .i64 a1_0, .int .i64 a1_1] 27 (0, 0))) ∧ Aside0 (wc.heap[gb533]? = some (.cells #[(.slice Ao38 t526.length co38), (.slice Ao42 t529.length co42)] 25 (0, 0))) ∧ Aside0 (wc.heap[gb540]? = some (.cells #[.int .i64 t534, (.slice Ao50 t535.length co50), .int .i64 t538] 37 (0, 0))) ∧ Aside0 (Below w.heap.size w wc))
        case first =>
         have H := HC32.out
         clear HC32
         by_cases c51 : t532 = 0
         ·rw [if_pos c51] at H
          have c51b0 : (t532 == 0) = true := beq_iff_eq.mpr c51
          have c51b1 : (t532 != 0) = false := bne_eq_false_iff_eq.mpr c51
          clear c51
          (first | rw [c51b0] | (simp only [i64_w, i32_w]; rw [c51b0]) | skip)
          by_cases c52 : t539 = 0
          ·rw [if_pos c52] at H
           have c52b0 : (t539 == 0) = true := beq_iff_eq.mpr c52
           have c52b1 : (t539 != 0) = false := bne_eq_false_iff_eq.mpr c52
           clear c52
           by_cases c53 : t534 = a2
           ·rw [if_pos c53] at H
            have c53b0 : (t534 == a2) = true := beq_iff_eq.mpr c53
            have c53b1 : (t534 != a2) = false := bne_eq_false_iff_eq.mpr c53
            clear c53
            have H' := Aside0.mk H
            clear H
            obtain ⟨hnb54, hnc54⟩ := nn_ NB540_516
            obtain ⟨hnb55, hnc55⟩ := nn_ NB540_517
            obtain ⟨hnb56, hnc56⟩ := nn_ NB540_533
            obtain ⟨hcz57_0, hcz57_1, hcz57_2, hfz57_0, hfz57_1, hfz57_2⟩ := e3_ BK540
            obtain ⟨hnb58, hnc58⟩ := nn_ NB533_516
            obtain ⟨hnb59, hnc59⟩ := nn_ NB533_517
            obtain ⟨hcz60_0, hcz60_1, hfz60_0, hfz60_1⟩ := e2_ BK533
            go_wp2
            go_meet
            case rel => exact ⟨_, (((t529.length : Int) != 0)), eY, H', ⟨by have := HJ3.out; have := HJ22.out; first | omega | exact Nat.le_refl _⟩, ⟨by (with_reducible repeat (first | apply Kd.V_alloc | apply Kd.V_drewN | apply Kd.V_drew)); exact Kd.V_mono (vG3 (g := gb540) HO528.out (fun _ hk => hk.2)) (fun _ hk => ⟨hk.1.1.2, ⟨hk.1.1.1.1.2.1, ⟨hk.1.1.1.1.2.2, ⟨hk.1.1.1.2, hk.1.2⟩⟩⟩⟩)⟩, ⟨by (with_reducible repeat (first | apply Kd.V_alloc | apply Kd.V_drewN | apply Kd.V_drew)); exact Kd.V_mono (vG3 (g := gb540) HO531.out (fun _ hk => hk.2)) (fun _ hk => ⟨hk.1.1.2, ⟨hk.1.1.1.1.2.1, ⟨hk.1.1.1.1.2.2, ⟨hk.1.1.1.2, hk.1.2⟩⟩⟩⟩)⟩, ⟨by (with_reducible repeat (first | apply Kd.R_alloc | apply Kd.R_drewN | apply Kd.R_drew)); exact Kd.R_mono (rG3 HO537.out BK540) (fun _ hk => trivial)⟩, ⟨by (with_reducible repeat (first | apply xN_ | apply xD_ | apply xA_)); refine xR_ ?_ NB516_540.out _; refine xR_ ?_ NB516_540.out _; refine xR_ ?_ NB516_540.out _; (with_reducible repeat (first | apply xN_ | apply xD_ | apply xA_)); exact BK516.out⟩, ⟨by (with_reducible repeat (first | apply xN_ | apply xD_ | apply xA_)); refine xR_ ?_ NB517_540.out _; refine xR_ ?_ NB517_540.out _; refine xR_ ?_ NB517_540.out _; (with_reducible repeat (first | apply xN_ | apply xD_ | apply xA_)); exact BK517.out⟩, ⟨by (with_reducible repeat (first | apply xN_ | apply xD_ | apply xA_)); refine xR_ ?_ NB533_540.out _; refine xR_ ?_ NB533_540.out _; refine xR_ ?_ NB533_540.out _; (with_reducible repeat (first | apply xN_ | apply xD_ | apply xA_)); exact BK533.out⟩, ⟨by (with_reducible repeat (first | apply xN_ | apply xD_ | apply xA_)); refine blk_put (cs := #[.int .i64 t534, .slice Ao50 t535.length co50, .int .i64 0]) ?_ 2 _ rfl; refine blk_put (cs := #[.int .i64 t534, .slice none 0 0, .int .i64 0]) ?_ 1 _ rfl; refine blk_put (cs := #[.int .i64 0, .slice none 0 0, .int .i64 0]) ?_ 0 _ rfl; (with_reducible repeat (first | apply xN_ | apply xD_ | apply xA_)); exact BK540.out⟩, ⟨qH⟩⟩
           ·rw [if_neg c53] at H
            have c53b0 : (t534 == a2) = false := beq_eq_false_iff_ne.mpr c53
            have c53b1 : (t534 != a2) = true := bne_iff_ne.mpr c53
            have H' := Aside0.mk H
            clear H
            obtain ⟨hnb61, hnc61⟩ := nn_ NB540_516
            obtain ⟨hnb62, hnc62⟩ := nn_ NB540_517
            obtain ⟨hnb63, hnc63⟩ := nn_ NB540_533
            obtain ⟨hcz64_0, hcz64_1, hcz64_2, hfz64_0, hfz64_1, hfz64_2⟩ := e3_ BK540
            go_wp2
            go_meet
            case rel => exact ⟨_, (true), eY, H', ⟨by have := HJ3.out; have := HJ22.out; first | omega | exact Nat.le_refl _⟩, ⟨by (with_reducible repeat (first | apply Kd.V_alloc | apply Kd.V_drewN | apply Kd.V_drew)); exact Kd.V_mono (vG3 (g := gb540) HO528.out (fun _ hk => hk.2)) (fun _ hk => ⟨hk.1.1.2, ⟨hk.1.1.1.1.2.1, ⟨hk.1.1.1.1.2.2, ⟨hk.1.1.1.2, hk.1.2⟩⟩⟩⟩)⟩, ⟨by (with_reducible repeat (first | apply Kd.V_alloc | apply Kd.V_drewN | apply Kd.V_drew)); exact Kd.V_mono (vG3 (g := gb540) HO531.out (fun _ hk => hk.2)) (fun _ hk => ⟨hk.1.1.2, ⟨hk.1.1.1.1.2.1, ⟨hk.1.1.1.1.2.2, ⟨hk.1.1.1.2, hk.1.2⟩⟩⟩⟩)⟩, ⟨by (with_reducible repeat (first | apply Kd.R_alloc | apply Kd.R_drewN | apply Kd.R_drew)); exact Kd.R_mono (rG3 HO537.out BK540) (fun _ hk => trivial)⟩, ⟨by (with_reducible repeat (first | apply xN_ | apply xD_ | apply xA_)); refine xR_ ?_ NB516_540.out _; refine xR_ ?_ NB516_540.out _; refine xR_ ?_ NB516_540.out _; (with_reducible repeat (first | apply xN_ | apply xD_ | apply xA_)); exact BK516.out⟩, ⟨by (with_reducible repeat (first | apply xN_ | apply xD_ | apply xA_)); refine xR_ ?_ NB517_540.out _; refine xR_ ?_ NB517_540.out _; refine xR_ ?_ NB517_540.out _; (with_reducible repeat (first | apply xN_ | apply xD_ | apply xA_)); exact BK517.out⟩, ⟨by (with_reducible repeat (first | apply xN_ | apply xD_ | apply xA_)); refine xR_ ?_ NB533_540.out _; refine xR_ ?_ NB533_540.out _; refine xR_ ?_ NB533_540.out _; (with_reducible repeat (first | apply xN_ | apply xD_ | apply xA_)); exact BK533.out⟩, ⟨by (with_reducible repeat (first | apply xN_ | apply xD_ | apply xA_)); refine blk_put (cs := #[.int .i64 t534, .slice Ao50 t535.length co50, .int .i64 0]) ?_ 2 _ rfl; refine blk_put (cs := #[.int .i64 t534, .slice none 0 0, .int .i64 0]) ?_ 1 _ rfl; refine blk_put (cs := #[.int .i64 0, .slice none 0 0, .int .i64 0]) ?_ 0 _ rfl; (with_reducible repeat (first | apply xN_ | apply xD_ | apply xA_)); exact BK540.out⟩, ⟨qH⟩⟩
          ·rw [if_neg c52] at H
           have c52b0 : (t539 == 0) = false := beq_eq_false_iff_ne.mpr c52
           have c52b1 : (t539 != 0) = true := bne_iff_ne.mpr c52
           have H' := Aside0.mk H
           clear H
           go_wp2
           go_meet
           case rel => exact ⟨_, (true), eY, H', ⟨by have := HJ3.out; have := HJ22.out; first | omega | exact Nat.le_refl _⟩, ⟨by (with_reducible repeat (first | apply Kd.V_alloc | apply Kd.V_drewN | apply Kd.V_drew)); exact Kd.V_mono (vG3 (g := gb540) HO528.out (fun _ hk => hk.2)) (fun _ hk => ⟨hk.1.1.2, ⟨hk.1.1.1.1.2.1, ⟨hk.1.1.1.1.2.2, ⟨hk.1.1.1.2, hk.1.2⟩⟩⟩⟩)⟩, ⟨by (with_reducible repeat (first | apply Kd.V_alloc | apply Kd.V_drewN | apply Kd.V_drew)); exact Kd.V_mono (vG3 (g := gb540) HO531.out (fun _ hk => hk.2)) (fun _ hk => ⟨hk.1.1.2, ⟨hk.1.1.1.1.2.1, ⟨hk.1.1.1.1.2.2, ⟨hk.1.1.1.2, hk.1.2⟩⟩⟩⟩)⟩, ⟨by (with_reducible repeat (first | apply Kd.R_alloc | apply Kd.R_drewN | apply Kd.R_drew)); exact Kd.R_mono (rG3 HO537.out BK540) (fun _ hk => trivial)⟩, ⟨by (with_reducible repeat (first | apply xN_ | apply xD_ | apply xA_)); refine xR_ ?_ NB516_540.out _; refine xR_ ?_ NB516_540.out _; refine xR_ ?_ NB516_540.out _; (with_reducible repeat (first | apply xN_ | apply xD_ | apply xA_)); exact BK516.out⟩, ⟨by (with_reducible repeat (first | apply xN_ | apply xD_ | apply xA_)); refine xR_ ?_ NB517_540.out _; refine xR_ ?_ NB517_540.out _; refine xR_ ?_ NB517_540.out _; (with_reducible repeat (first | apply xN_ | apply xD_ | apply xA_)); exact BK517.out⟩, ⟨by (with_reducible repeat (first | apply xN_ | apply xD_ | apply xA_)); refine xR_ ?_ NB533_540.out _; refine xR_ ?_ NB533_540.out _; refine xR_ ?_ NB533_540.out _; (with_reducible repeat (first | apply xN_ | apply xD_ | apply xA_)); exact BK533.out⟩, ⟨by (with_reducible repeat (first | apply xN_ | apply xD_ | apply xA_)); refine blk_put (cs := #[.int .i64 t534, .slice Ao50 t535.length co50, .int .i64 0]) ?_ 2 _ rfl; refine blk_put (cs := #[.int .i64 t534, .slice none 0 0, .int .i64 0]) ?_ 1 _ rfl; refine blk_put (cs := #[.int .i64 0, .slice none 0 0, .int .i64 0]) ?_ 0 _ rfl; (with_reducible repeat (first | apply xN_ | apply xD_ | apply xA_)); exact BK540.out⟩, ⟨qH⟩⟩
         ·rw [if_neg c51] at H
          have c51b0 : (t532 == 0) = false := beq_eq_false_iff_ne.mpr c51
          have c51b1 : (t532 != 0) = true := bne_iff_ne.mpr c51
          (first | rw [c51b0] | (simp only [i64_w, i32_w]; rw [c51b0]) | skip)
          have H' := Aside0.mk H
          clear H
          go_wp2
          go_meet
          case rel => exact ⟨_, (true), eY, H', ⟨by have := HJ3.out; have := HJ22.out; first | omega | exact Nat.le_refl _⟩, ⟨by (with_reducible repeat (first | apply Kd.V_alloc | apply Kd.V_drewN | apply Kd.V_drew)); exact Kd.V_mono (vG3 (g := gb540) HO528.out (fun _ hk => hk.2)) (fun _ hk => ⟨hk.1.1.2, ⟨hk.1.1.1.1.2.1, ⟨hk.1.1.1.1.2.2, ⟨hk.1.1.1.2, hk.1.2⟩⟩⟩⟩)⟩, ⟨by (with_reducible repeat (first | apply Kd.V_alloc | apply Kd.V_drewN | apply Kd.V_drew)); exact Kd.V_mono (vG3 (g := gb540) HO531.out (fun _ hk => hk.2)) (fun _ hk => ⟨hk.1.1.2, ⟨hk.1.1.1.1.2.1, ⟨hk.1.1.1.1.2.2, ⟨hk.1.1.1.2, hk.1.2⟩⟩⟩⟩)⟩, ⟨by (with_reducible repeat (first | apply Kd.R_alloc | apply Kd.R_drewN | apply Kd.R_drew)); exact Kd.R_mono (rG3 HO537.out BK540) (fun _ hk => trivial)⟩, ⟨by (with_reducible repeat (first | apply xN_ | apply xD_ | apply xA_)); refine xR_ ?_ NB516_540.out _; refine xR_ ?_ NB516_540.out _; refine xR_ ?_ NB516_540.out _; (with_reducible repeat (first | apply xN_ | apply xD_ | apply xA_)); exact BK516.out⟩, ⟨by (with_reducible repeat (first | apply xN_ | apply xD_ | apply xA_)); refine xR_ ?_ NB517_540.out _; refine xR_ ?_ NB517_540.out _; refine xR_ ?_ NB517_540.out _; (with_reducible repeat (first | apply xN_ | apply xD_ | apply xA_)); exact BK517.out⟩, ⟨by (with_reducible repeat (first | apply xN_ | apply xD_ | apply xA_)); refine xR_ ?_ NB533_540.out _; refine xR_ ?_ NB533_540.out _; refine xR_ ?_ NB533_540.out _; (with_reducible repeat (first | apply xN_ | apply xD_ | apply xA_)); exact BK533.out⟩, ⟨by (with_reducible repeat (first | apply xN_ | apply xD_ | apply xA_)); refine blk_put (cs := #[.int .i64 t534, .slice Ao50 t535.length co50, .int .i64 0]) ?_ 2 _ rfl; refine blk_put (cs := #[.int .i64 t534, .slice none 0 0, .int .i64 0]) ?_ 1 _ rfl; refine blk_put (cs := #[.int .i64 0, .slice none 0 0, .int .i64 0]) ?_ 0 _ rfl; (with_reducible repeat (first | apply xN_ | apply xD_ | apply xA_)); exact BK540.out⟩, ⟨qH⟩⟩
        case rest =>
         clear HC32
         (try clear p2); (try clear c28); (try clear c29b0); (try clear c29b1); (try clear hcz34_0); (try clear hcz34_1); (try clear hcz41_0); (try clear hcz41_1)
         (try clear hcz43_0); (try clear hcz43_1); (try clear hcz49_0); (try clear hcz49_1); (try clear hcz49_2); (try clear hfz34_0); (try clear hfz34_1); (try clear hfz41_0)
         (try clear hfz41_1); (try clear hfz43_0); (try clear hfz43_1); (try clear hfz49_0); (try clear hfz49_1); (try clear hfz49_2); (try clear p2)
         obtain ⟨kq, x77_31, rfl, HA, HJ31, HO_534000, HO_534001, HO_541001, BK516, BK517, BK533, BK540, HB⟩ := hcut
         cases kq with
         | zero => exact absurd HA.out (by simp [armadalaw04_JournalStarts.j2])
         | succ kj31 =>
          have H := HA.out
          clear HA
          simp only [armadalaw04_JournalStarts.j2] at H
          by_cases c65 : x77_31 = true
          ·subst c65
           rw [if_pos rfl] at H
           exact absurd H (by simp)
          ·replace c65 := Bool.eq_false_iff.mpr c65
           subst c65
           rw [if_neg nF_] at H
           have H' := Aside0.mk H
           clear H
           obtain ⟨hnb66, hnc66⟩ := nn_ NB517_516
           obtain ⟨hnb67, hnc67⟩ := nn_ NB517_533
           obtain ⟨hnb68, hnc68⟩ := nn_ NB517_540
           obtain ⟨hcz69_0, hcz69_1, hfz69_0, hfz69_1⟩ := e2_ BK517
           go_wp2
           go_loopg [13] kj31 (fun kq v13 w' => ∃ (x13_4 : Int), v13 = .int .i64 x13_4 ∧ Aside0 (armadalaw04_JournalStarts.l0 kq a2 x13_4 l0_0 l0_1 a1_0 a1_1 t526 t529 t534 t535 t538 = some true) ∧ Aside0 (kq ≤ kj31) ∧ Aside0 (Kd.V Kd.string 9 w' w.heap.size (fun k_ => some k_ ≠ ((.slice Ao50 t535.length co50) : Value).ownBlock ∧ k_ ≠ gb516 ∧ k_ ≠ gb517 ∧ k_ ≠ gb533 ∧ k_ ≠ gb540) (.slice Ao38 t526.length co38) t526) ∧ Aside0 (Kd.V k29 29 w' w.heap.size (fun k_ => some k_ ≠ ((.slice Ao50 t535.length co50) : Value).ownBlock ∧ k_ ≠ gb516 ∧ k_ ≠ gb517 ∧ k_ ≠ gb533 ∧ k_ ≠ gb540) (.slice Ao42 t529.length co42) t529) ∧ Aside0 (Kd.R Kd.string 9 w' w.heap.size (fun _ => True) (.slice Ao50 t535.length co50) t535) ∧ Aside0 (w'.heap[gb516]? = some (.cells #[(.slice A0_0 l0_0.length c0_0), (.slice A0_1 l0_1.length c0_1)] 25 (0, 0))) ∧ Aside0 (w'.heap[gb517]? = some (.cells #[.int .i64 a1_0, .int .i64 a1_1] 27 (0, 0))) ∧ Aside0 (w'.heap[gb533]? = some (.cells #[(.slice Ao38 t526.length co38), (.slice Ao42 t529.length co42)] 25 (0, 0))) ∧ Aside0 (w'.heap[gb540]? = some (.cells #[.int .i64 t534, (.slice Ao50 t535.length co50), .int .i64 t538] 37 (0, 0))) ∧ Aside0 (Below w.heap.size w w'))
           case atStart => exact ⟨(wrap64 (a1_0 + 1)), eY, H', ⟨Nat.le_refl _⟩, ⟨qV HO_534000.out⟩, ⟨qV HO_534001.out⟩, ⟨qR HO_541001.out⟩, ⟨qB BK516⟩, ⟨qB BK517⟩, ⟨qB BK533⟩, ⟨qB BK540⟩, ⟨qH⟩⟩
           case round =>
            clear H'
            (try clear p2); (try clear p6); (try clear p64); (try clear c65); (try clear hcz69_0); (try clear hcz69_1); (try clear hfz69_0); (try clear hfz69_1)
            (try clear p2)
            obtain ⟨x13_4, rfl, HA, HK4, HO_534000, HO_534001, HO_541001, BK516, BK517, BK533, BK540, HB⟩ := hrel
            cases gk with
            | zero => exact absurd HA.out (by simp [armadalaw04_JournalStarts.l0])
            | succ k4 =>
             have H := HA.out
             clear HA
             simp only [armadalaw04_JournalStarts.l0] at H
             by_cases c70 : x13_4 < (wrap64 (a1_0 + a1_1))
             ·rw [if_pos c70] at H
              have c70b0 : decide (x13_4 < (wrap64 (a1_0 + a1_1))) = true := decide_eq_true c70
              clear c70
              replace H := Option.bind_eq_some_iff.mp H
              obtain ⟨⟨t543, t544⟩, A710, H⟩ := H
              try dsimp only at H
              have A71 := Aside0.mk A710
              clear A710
              replace H := Option.bind_eq_some_iff.mp H
              obtain ⟨⟨t545, t546, t547, t548, t549, t550⟩, A720, H⟩ := H
              try dsimp only at H
              have A72 := Aside0.mk A720
              clear A720
              by_cases c73 : t550 = true
              ·subst c73
               rw [if_pos rfl] at H
               by_cases c74 : t546 = a2
               ·rw [if_pos c74] at H
                have c74b0 : (t546 == a2) = true := beq_iff_eq.mpr c74
                have c74b1 : (t546 != a2) = false := bne_eq_false_iff_eq.mpr c74
                clear c74
                replace H := Option.bind_eq_some_iff.mp H
                obtain ⟨t552, A750, H⟩ := H
                try dsimp only at H
                have A75 := Aside0.mk A750
                clear A750
                obtain rfl := Option.some.inj H
                obtain ⟨hnb76, hnc76⟩ := nn_ NB517_516
                obtain ⟨hnb77, hnc77⟩ := nn_ NB517_533
                obtain ⟨hnb78, hnc78⟩ := nn_ NB517_540
                obtain ⟨hcz79_0, hcz79_1, hfz79_0, hfz79_1⟩ := e2_ BK517
                obtain ⟨hnb80, hnc80⟩ := nn_ NB516_533
                obtain ⟨hnb81, hnc81⟩ := nn_ NB516_540
                obtain ⟨hcz82_0, hcz82_1, hfz82_0, hfz82_1⟩ := e2_ BK516
                go_wp2_with (first | ((with_reducible refine gate_callee (f := 17) rfl ?_); refine gL (some 93) Try.func17 #[.agg #[.slice A0_0 l0_0.length c0_0, .slice A0_1 l0_1.length c0_1], .int .i64 x13_4] ?_; (with_reducible refine (armadaref01_Get.calls k4 _ _ l0_0 _ _ l0_1 x13_4 t543 t544 _ ?side1 ?side2 ?side3 ?side4 A71.out).mono ?_); (case side1 => exact qC HR0_0); (case side2 => exact HC0_0.out); (case side3 => exact qC HR0_1); (case side4 => exact HC0_1.out); rintro e w83 ⟨rfl, hb⟩; refine ⟨_, rfl, ?_⟩; have hz_ := zqA HB hb; replace hb := below_step hz_ hb; replace HO_534000 := zV HO_534000 hb; replace HO_534001 := zV HO_534001 hb; replace HO_541001 := zR HO_541001 hb; replace BK516 := zB BK516 hb; replace BK517 := zB BK517 hb; replace BK533 := zB BK533 hb; replace BK540 := zB BK540 hb; replace HB := zH HB hb; clear hz_; (try clear hb)) | ((with_reducible refine gate_callee (f := 18) rfl ?_); refine gL (some 98) Try.func18 #[.string t543] ?_; (with_reducible refine (armadaref03_Read.calls k4 t543 t545 t546 t547 t548 t549 true _ A72.out).mono ?_); rintro e w84 ⟨rfl, hb⟩; refine ⟨_, rfl, ?_⟩; have hz_ := zqA HB hb; replace hb := below_step hz_ hb; replace HO_534000 := zV HO_534000 hb; replace HO_534001 := zV HO_534001 hb; replace HO_541001 := zR HO_541001 hb; replace BK516 := zB BK516 hb; replace BK517 := zB BK517 hb; replace BK533 := zB BK533 hb; replace BK540 := zB BK540 hb; replace HB := zH HB hb; clear hz_; (try clear hb)) | ((with_reducible refine gate_dst (N := 16) rfl ?_); (try (refine gate_guard (by rfl) ?_; dsimp only)); refine bE (N := 16) (cs := #[.int .i64 0, .int .i64 0, .int .i64 0, .int .i64 0, .int .i64 0]) (t := 53) ?_; intro gb551 hg w85 hbox hb; have hz_ := zqA HB hb; replace hb := below_step hz_ hb; replace HO_534000 := zE HO_534000 hz_ hg hb; replace HO_534001 := zE HO_534001 hz_ hg hb; replace HO_541001 := zR HO_541001 hb; have BK551 := Aside0.mk hbox; have GE551 := zG HB hz_ hg; have NB516_551 := zN BK516 hz_ hg; have NB551_516 := zM BK516 hz_ hg; have NB517_551 := zN BK517 hz_ hg; have NB551_517 := zM BK517 hz_ hg; have NB533_551 := zN BK533 hz_ hg; have NB551_533 := zM BK533 hz_ hg; have NB540_551 := zN BK540 hz_ hg; have NB551_540 := zM BK540 hz_ hg; replace BK516 := zB BK516 hb; replace BK517 := zB BK517 hb; replace BK533 := zB BK533 hb; replace BK540 := zB BK540 hb; replace HB := zH HB hb; clear hz_; clear hb hbox hg; obtain ⟨hnb86, hnc86⟩ := nn_ NB551_516; obtain ⟨hnb87, hnc87⟩ := nn_ NB551_517; obtain ⟨hnb88, hnc88⟩ := nn_ NB551_533; obtain ⟨hnb89, hnc89⟩ := nn_ NB551_540; obtain ⟨hcz90_0, hcz90_1, hcz90_2, hcz90_3, hcz90_4, hfz90_0, hfz90_1, hfz90_2, hfz90_3, hfz90_4⟩ := e5_ BK551) | ((with_reducible refine gate_callee (f := 9) rfl ?_); refine gL (some 108) Try.func9 #[] ?_; (with_reducible refine (armadalaw04_live.calls k4  true _ A75.out).mono ?_); rintro e w91 ⟨rfl, hb⟩; refine ⟨_, rfl, ?_⟩; replace HO_534000 := Aside0.mk (Kd.V_below (qV (Kd.V_mono (Kd.V_far (p := ⟨gb551, 4, none⟩) (Kd.V_far (p := ⟨gb551, 3, none⟩) (vG3 (g := gb551) HO_534000.out (fun _ hk => hk.2)) (fun _ hk => hk.2) (.int .i64 t548)) (fun _ hk => hk.2) (.int .i64 t549)) (fun _ h_ => h_.1))) hb); replace HO_534001 := Aside0.mk (Kd.V_below (qV (Kd.V_mono (Kd.V_far (p := ⟨gb551, 4, none⟩) (Kd.V_far (p := ⟨gb551, 3, none⟩) (vG3 (g := gb551) HO_534001.out (fun _ hk => hk.2)) (fun _ hk => hk.2) (.int .i64 t548)) (fun _ hk => hk.2) (.int .i64 t549)) (fun _ h_ => h_.1))) hb); replace HO_541001 := Aside0.mk (Kd.R_below (qR (Kd.R_mono (Kd.R_far (p := ⟨gb551, 4, none⟩) (Kd.R_far (p := ⟨gb551, 3, none⟩) (rG3 HO_541001.out BK551) (fun _ hk => hk.2) (.int .i64 t548)) (fun _ hk => hk.2) (.int .i64 t549)) (fun _ h_ => h_.1))) hb); replace BK516 := wF BK516 hb; replace BK517 := wF BK517 hb; replace BK533 := wF BK533 hb; replace BK540 := wF BK540 hb; replace HB := wH hb; replace BK551 := wP5 BK551 hb; (try clear hb)))
                go_ret
                exact ⟨eX, qH⟩
               ·rw [if_neg c74] at H
                have c74b0 : (t546 == a2) = false := beq_eq_false_iff_ne.mpr c74
                have c74b1 : (t546 != a2) = true := bne_iff_ne.mpr c74
                have H' := Aside0.mk H
                clear H
                obtain ⟨hnb92, hnc92⟩ := nn_ NB517_516
                obtain ⟨hnb93, hnc93⟩ := nn_ NB517_533
                obtain ⟨hnb94, hnc94⟩ := nn_ NB517_540
                obtain ⟨hcz95_0, hcz95_1, hfz95_0, hfz95_1⟩ := e2_ BK517
                obtain ⟨hnb96, hnc96⟩ := nn_ NB516_533
                obtain ⟨hnb97, hnc97⟩ := nn_ NB516_540
                obtain ⟨hcz98_0, hcz98_1, hfz98_0, hfz98_1⟩ := e2_ BK516
                go_wp2_with (first | ((with_reducible refine gate_callee (f := 17) rfl ?_); refine gL (some 93) Try.func17 #[.agg #[.slice A0_0 l0_0.length c0_0, .slice A0_1 l0_1.length c0_1], .int .i64 x13_4] ?_; (with_reducible refine (armadaref01_Get.calls k4 _ _ l0_0 _ _ l0_1 x13_4 t543 t544 _ ?side1 ?side2 ?side3 ?side4 A71.out).mono ?_); (case side1 => exact qC HR0_0); (case side2 => exact HC0_0.out); (case side3 => exact qC HR0_1); (case side4 => exact HC0_1.out); rintro e w99 ⟨rfl, hb⟩; refine ⟨_, rfl, ?_⟩; have hz_ := zqA HB hb; replace hb := below_step hz_ hb; replace HO_534000 := zV HO_534000 hb; replace HO_534001 := zV HO_534001 hb; replace HO_541001 := zR HO_541001 hb; replace BK516 := zB BK516 hb; replace BK517 := zB BK517 hb; replace BK533 := zB BK533 hb; replace BK540 := zB BK540 hb; replace HB := zH HB hb; clear hz_; (try clear hb)) | ((with_reducible refine gate_callee (f := 18) rfl ?_); refine gL (some 98) Try.func18 #[.string t543] ?_; (with_reducible refine (armadaref03_Read.calls k4 t543 t545 t546 t547 t548 t549 true _ A72.out).mono ?_); rintro e w100 ⟨rfl, hb⟩; refine ⟨_, rfl, ?_⟩; have hz_ := zqA HB hb; replace hb := below_step hz_ hb; replace HO_534000 := zV HO_534000 hb; replace HO_534001 := zV HO_534001 hb; replace HO_541001 := zR HO_541001 hb; replace BK516 := zB BK516 hb; replace BK517 := zB BK517 hb; replace BK533 := zB BK533 hb; replace BK540 := zB BK540 hb; replace HB := zH HB hb; clear hz_; (try clear hb)) | ((with_reducible refine gate_dst (N := 16) rfl ?_); (try (refine gate_guard (by rfl) ?_; dsimp only)); refine bE (N := 16) (cs := #[.int .i64 0, .int .i64 0, .int .i64 0, .int .i64 0, .int .i64 0]) (t := 53) ?_; intro gb551 hg w101 hbox hb; have hz_ := zqA HB hb; replace hb := below_step hz_ hb; replace HO_534000 := zE HO_534000 hz_ hg hb; replace HO_534001 := zE HO_534001 hz_ hg hb; replace HO_541001 := zR HO_541001 hb; have BK551 := Aside0.mk hbox; have GE551 := zG HB hz_ hg; have NB516_551 := zN BK516 hz_ hg; have NB551_516 := zM BK516 hz_ hg; have NB517_551 := zN BK517 hz_ hg; have NB551_517 := zM BK517 hz_ hg; have NB533_551 := zN BK533 hz_ hg; have NB551_533 := zM BK533 hz_ hg; have NB540_551 := zN BK540 hz_ hg; have NB551_540 := zM BK540 hz_ hg; replace BK516 := zB BK516 hb; replace BK517 := zB BK517 hb; replace BK533 := zB BK533 hb; replace BK540 := zB BK540 hb; replace HB := zH HB hb; clear hz_; clear hb hbox hg; obtain ⟨hnb102, hnc102⟩ := nn_ NB551_516; obtain ⟨hnb103, hnc103⟩ := nn_ NB551_517; obtain ⟨hnb104, hnc104⟩ := nn_ NB551_533; obtain ⟨hnb105, hnc105⟩ := nn_ NB551_540; obtain ⟨hcz106_0, hcz106_1, hcz106_2, hcz106_3, hcz106_4, hfz106_0, hfz106_1, hfz106_2, hfz106_3, hfz106_4⟩ := e5_ BK551))
                go_roundg k4
                case measure => have := HJ3.out; have := HJ22.out; have := HJ31.out; have := HK4.out; omega
                case rel => exact ⟨(wrap64 (x13_4 + 1)), eY, H', ⟨by have := HJ3.out; have := HJ22.out; have := HJ31.out; have := HK4.out; omega⟩, ⟨by (with_reducible repeat (first | apply Kd.V_alloc | apply Kd.V_drewN | apply Kd.V_drew)); exact Kd.V_mono (Kd.V_far (p := ⟨gb551, 4, none⟩) (Kd.V_far (p := ⟨gb551, 3, none⟩) (vG3 (g := gb551) HO_534000.out (fun _ hk => hk.2)) (fun _ hk => hk.2) (.int .i64 t548)) (fun _ hk => hk.2) (.int .i64 t549)) (fun _ hk => ⟨hk.1.1.1, ⟨hk.1.1.2.1, ⟨hk.1.1.2.2.1, ⟨hk.1.1.2.2.2.1, hk.1.1.2.2.2.2⟩⟩⟩⟩)⟩, ⟨by (with_reducible repeat (first | apply Kd.V_alloc | apply Kd.V_drewN | apply Kd.V_drew)); exact Kd.V_mono (Kd.V_far (p := ⟨gb551, 4, none⟩) (Kd.V_far (p := ⟨gb551, 3, none⟩) (vG3 (g := gb551) HO_534001.out (fun _ hk => hk.2)) (fun _ hk => hk.2) (.int .i64 t548)) (fun _ hk => hk.2) (.int .i64 t549)) (fun _ hk => ⟨hk.1.1.1, ⟨hk.1.1.2.1, ⟨hk.1.1.2.2.1, ⟨hk.1.1.2.2.2.1, hk.1.1.2.2.2.2⟩⟩⟩⟩)⟩, ⟨by (with_reducible repeat (first | apply Kd.R_alloc | apply Kd.R_drewN | apply Kd.R_drew)); exact Kd.R_mono (Kd.R_far (p := ⟨gb551, 4, none⟩) (Kd.R_far (p := ⟨gb551, 3, none⟩) (rG3 HO_541001.out BK551) (fun _ hk => hk.2) (.int .i64 t548)) (fun _ hk => hk.2) (.int .i64 t549)) (fun _ hk => trivial)⟩, ⟨by (with_reducible repeat (first | apply xN_ | apply xD_ | apply xA_)); refine xR_ ?_ NB516_551.out _; refine xR_ ?_ NB516_551.out _; refine xR_ ?_ NB516_551.out _; refine xR_ ?_ NB516_551.out _; refine xR_ ?_ NB516_551.out _; (with_reducible repeat (first | apply xN_ | apply xD_ | apply xA_)); exact BK516.out⟩, ⟨by (with_reducible repeat (first | apply xN_ | apply xD_ | apply xA_)); refine xR_ ?_ NB517_551.out _; refine xR_ ?_ NB517_551.out _; refine xR_ ?_ NB517_551.out _; refine xR_ ?_ NB517_551.out _; refine xR_ ?_ NB517_551.out _; (with_reducible repeat (first | apply xN_ | apply xD_ | apply xA_)); exact BK517.out⟩, ⟨by (with_reducible repeat (first | apply xN_ | apply xD_ | apply xA_)); refine xR_ ?_ NB533_551.out _; refine xR_ ?_ NB533_551.out _; refine xR_ ?_ NB533_551.out _; refine xR_ ?_ NB533_551.out _; refine xR_ ?_ NB533_551.out _; (with_reducible repeat (first | apply xN_ | apply xD_ | apply xA_)); exact BK533.out⟩, ⟨by (with_reducible repeat (first | apply xN_ | apply xD_ | apply xA_)); refine xR_ ?_ NB540_551.out _; refine xR_ ?_ NB540_551.out _; refine xR_ ?_ NB540_551.out _; refine xR_ ?_ NB540_551.out _; refine xR_ ?_ NB540_551.out _; (with_reducible repeat (first | apply xN_ | apply xD_ | apply xA_)); exact BK540.out⟩, ⟨qH⟩⟩
              ·replace c73 := Bool.eq_false_iff.mpr c73
               subst c73
               rw [if_neg nF_] at H
               have H' := Aside0.mk H
               clear H
               obtain ⟨hnb107, hnc107⟩ := nn_ NB517_516
               obtain ⟨hnb108, hnc108⟩ := nn_ NB517_533
               obtain ⟨hnb109, hnc109⟩ := nn_ NB517_540
               obtain ⟨hcz110_0, hcz110_1, hfz110_0, hfz110_1⟩ := e2_ BK517
               obtain ⟨hnb111, hnc111⟩ := nn_ NB516_533
               obtain ⟨hnb112, hnc112⟩ := nn_ NB516_540
               obtain ⟨hcz113_0, hcz113_1, hfz113_0, hfz113_1⟩ := e2_ BK516
               go_wp2_with (first | ((with_reducible refine gate_callee (f := 17) rfl ?_); refine gL (some 93) Try.func17 #[.agg #[.slice A0_0 l0_0.length c0_0, .slice A0_1 l0_1.length c0_1], .int .i64 x13_4] ?_; (with_reducible refine (armadaref01_Get.calls k4 _ _ l0_0 _ _ l0_1 x13_4 t543 t544 _ ?side1 ?side2 ?side3 ?side4 A71.out).mono ?_); (case side1 => exact qC HR0_0); (case side2 => exact HC0_0.out); (case side3 => exact qC HR0_1); (case side4 => exact HC0_1.out); rintro e w114 ⟨rfl, hb⟩; refine ⟨_, rfl, ?_⟩; have hz_ := zqA HB hb; replace hb := below_step hz_ hb; replace HO_534000 := zV HO_534000 hb; replace HO_534001 := zV HO_534001 hb; replace HO_541001 := zR HO_541001 hb; replace BK516 := zB BK516 hb; replace BK517 := zB BK517 hb; replace BK533 := zB BK533 hb; replace BK540 := zB BK540 hb; replace HB := zH HB hb; clear hz_; (try clear hb)) | ((with_reducible refine gate_callee (f := 18) rfl ?_); refine gL (some 98) Try.func18 #[.string t543] ?_; (with_reducible refine (armadaref03_Read.calls k4 t543 t545 t546 t547 t548 t549 false _ A72.out).mono ?_); rintro e w115 ⟨rfl, hb⟩; refine ⟨_, rfl, ?_⟩; have hz_ := zqA HB hb; replace hb := below_step hz_ hb; replace HO_534000 := zV HO_534000 hb; replace HO_534001 := zV HO_534001 hb; replace HO_541001 := zR HO_541001 hb; replace BK516 := zB BK516 hb; replace BK517 := zB BK517 hb; replace BK533 := zB BK533 hb; replace BK540 := zB BK540 hb; replace HB := zH HB hb; clear hz_; (try clear hb)) | ((with_reducible refine gate_dst (N := 16) rfl ?_); (try (refine gate_guard (by rfl) ?_; dsimp only)); refine bE (N := 16) (cs := #[.int .i64 0, .int .i64 0, .int .i64 0, .int .i64 0, .int .i64 0]) (t := 53) ?_; intro gb551 hg w116 hbox hb; have hz_ := zqA HB hb; replace hb := below_step hz_ hb; replace HO_534000 := zE HO_534000 hz_ hg hb; replace HO_534001 := zE HO_534001 hz_ hg hb; replace HO_541001 := zR HO_541001 hb; have BK551 := Aside0.mk hbox; have GE551 := zG HB hz_ hg; have NB516_551 := zN BK516 hz_ hg; have NB551_516 := zM BK516 hz_ hg; have NB517_551 := zN BK517 hz_ hg; have NB551_517 := zM BK517 hz_ hg; have NB533_551 := zN BK533 hz_ hg; have NB551_533 := zM BK533 hz_ hg; have NB540_551 := zN BK540 hz_ hg; have NB551_540 := zM BK540 hz_ hg; replace BK516 := zB BK516 hb; replace BK517 := zB BK517 hb; replace BK533 := zB BK533 hb; replace BK540 := zB BK540 hb; replace HB := zH HB hb; clear hz_; clear hb hbox hg; obtain ⟨hnb117, hnc117⟩ := nn_ NB551_516; obtain ⟨hnb118, hnc118⟩ := nn_ NB551_517; obtain ⟨hnb119, hnc119⟩ := nn_ NB551_533; obtain ⟨hnb120, hnc120⟩ := nn_ NB551_540; obtain ⟨hcz121_0, hcz121_1, hcz121_2, hcz121_3, hcz121_4, hfz121_0, hfz121_1, hfz121_2, hfz121_3, hfz121_4⟩ := e5_ BK551))
               go_roundg k4
               case measure => have := HJ3.out; have := HJ22.out; have := HJ31.out; have := HK4.out; omega
               case rel => exact ⟨(wrap64 (x13_4 + 1)), eY, H', ⟨by have := HJ3.out; have := HJ22.out; have := HJ31.out; have := HK4.out; omega⟩, ⟨by (with_reducible repeat (first | apply Kd.V_alloc | apply Kd.V_drewN | apply Kd.V_drew)); exact Kd.V_mono (Kd.V_far (p := ⟨gb551, 4, none⟩) (Kd.V_far (p := ⟨gb551, 3, none⟩) (vG3 (g := gb551) HO_534000.out (fun _ hk => hk.2)) (fun _ hk => hk.2) (.int .i64 t548)) (fun _ hk => hk.2) (.int .i64 t549)) (fun _ hk => ⟨hk.1.1.1, ⟨hk.1.1.2.1, ⟨hk.1.1.2.2.1, ⟨hk.1.1.2.2.2.1, hk.1.1.2.2.2.2⟩⟩⟩⟩)⟩, ⟨by (with_reducible repeat (first | apply Kd.V_alloc | apply Kd.V_drewN | apply Kd.V_drew)); exact Kd.V_mono (Kd.V_far (p := ⟨gb551, 4, none⟩) (Kd.V_far (p := ⟨gb551, 3, none⟩) (vG3 (g := gb551) HO_534001.out (fun _ hk => hk.2)) (fun _ hk => hk.2) (.int .i64 t548)) (fun _ hk => hk.2) (.int .i64 t549)) (fun _ hk => ⟨hk.1.1.1, ⟨hk.1.1.2.1, ⟨hk.1.1.2.2.1, ⟨hk.1.1.2.2.2.1, hk.1.1.2.2.2.2⟩⟩⟩⟩)⟩, ⟨by (with_reducible repeat (first | apply Kd.R_alloc | apply Kd.R_drewN | apply Kd.R_drew)); exact Kd.R_mono (Kd.R_far (p := ⟨gb551, 4, none⟩) (Kd.R_far (p := ⟨gb551, 3, none⟩) (rG3 HO_541001.out BK551) (fun _ hk => hk.2) (.int .i64 t548)) (fun _ hk => hk.2) (.int .i64 t549)) (fun _ hk => trivial)⟩, ⟨by (with_reducible repeat (first | apply xN_ | apply xD_ | apply xA_)); refine xR_ ?_ NB516_551.out _; refine xR_ ?_ NB516_551.out _; refine xR_ ?_ NB516_551.out _; refine xR_ ?_ NB516_551.out _; refine xR_ ?_ NB516_551.out _; (with_reducible repeat (first | apply xN_ | apply xD_ | apply xA_)); exact BK516.out⟩, ⟨by (with_reducible repeat (first | apply xN_ | apply xD_ | apply xA_)); refine xR_ ?_ NB517_551.out _; refine xR_ ?_ NB517_551.out _; refine xR_ ?_ NB517_551.out _; refine xR_ ?_ NB517_551.out _; refine xR_ ?_ NB517_551.out _; (with_reducible repeat (first | apply xN_ | apply xD_ | apply xA_)); exact BK517.out⟩, ⟨by (with_reducible repeat (first | apply xN_ | apply xD_ | apply xA_)); refine xR_ ?_ NB533_551.out _; refine xR_ ?_ NB533_551.out _; refine xR_ ?_ NB533_551.out _; refine xR_ ?_ NB533_551.out _; refine xR_ ?_ NB533_551.out _; (with_reducible repeat (first | apply xN_ | apply xD_ | apply xA_)); exact BK533.out⟩, ⟨by (with_reducible repeat (first | apply xN_ | apply xD_ | apply xA_)); refine xR_ ?_ NB540_551.out _; refine xR_ ?_ NB540_551.out _; refine xR_ ?_ NB540_551.out _; refine xR_ ?_ NB540_551.out _; refine xR_ ?_ NB540_551.out _; (with_reducible repeat (first | apply xN_ | apply xD_ | apply xA_)); exact BK540.out⟩, ⟨qH⟩⟩
             ·rw [if_neg c70] at H
              have c70b0 : decide (x13_4 < (wrap64 (a1_0 + a1_1))) = false := decide_eq_false c70
              clear c70
              by_cases c122 : (t535.length : Int) = 0
              ·rw [if_pos c122] at H
               have c122b0 : ((t535.length : Int) == 0) = true := beq_iff_eq.mpr c122
               have c122b1 : ((t535.length : Int) != 0) = false := bne_eq_false_iff_eq.mpr c122
               clear c122
               by_cases c123 : t538 = (wrap64 (a1_0 + 1))
               ·rw [if_pos c123] at H
                have c123b0 : (t538 == (wrap64 (a1_0 + 1))) = true := beq_iff_eq.mpr c123
                have c123b1 : (t538 != (wrap64 (a1_0 + 1))) = false := bne_eq_false_iff_eq.mpr c123
                clear c123
                replace H := Option.bind_eq_some_iff.mp H
                obtain ⟨t541, A1240, H⟩ := H
                try dsimp only at H
                have A124 := Aside0.mk A1240
                clear A1240
                by_cases c125 : t541 = true
                ·subst c125
                 rw [if_pos rfl] at H
                 replace H := Option.bind_eq_some_iff.mp H
                 obtain ⟨t542, A1260, H⟩ := H
                 try dsimp only at H
                 have A126 := Aside0.mk A1260
                 clear A1260
                 obtain rfl := Option.some.inj H
                 obtain ⟨hnb127, hnc127⟩ := nn_ NB517_516
                 obtain ⟨hnb128, hnc128⟩ := nn_ NB517_533
                 obtain ⟨hnb129, hnc129⟩ := nn_ NB517_540
                 obtain ⟨hcz130_0, hcz130_1, hfz130_0, hfz130_1⟩ := e2_ BK517
                 obtain ⟨hnb131, hnc131⟩ := nn_ NB540_516
                 obtain ⟨hnb132, hnc132⟩ := nn_ NB540_533
                 obtain ⟨hcz133_0, hcz133_1, hcz133_2, hfz133_0, hfz133_1, hfz133_2⟩ := e3_ BK540
                 obtain ⟨hnb134, hnc134⟩ := nn_ NB533_516
                 obtain ⟨hcz135_0, hcz135_1, hfz135_0, hfz135_1⟩ := e2_ BK533
                 go_wp2_with (first | (go_at_call 14; (with_reducible refine (journal_Clean.calls k4 _ _ t526 _ _ t529 a1_0 a1_1 t534 _ _ t535 t538 true _ ?side1 ?side2 ?side3 ?side4 ?side5 ?side6 A124.out).mono ?_); (case side1 => exact qK (Kd.V_reads' HO_534000.out).2.2); (case side2 => exact (Kd.V_reads' HO_534000.out).2.1); (case side3 => exact qK (Kd.V_reads' HO_534001.out).2.2); (case side4 => exact (Kd.V_reads' HO_534001.out).2.1); (case side5 => exact qK (Kd.R_reads' HO_541001.out).2.2); (case side6 => exact (Kd.R_reads' HO_541001.out).2.1); rintro e w136 ⟨rfl, hb⟩; have hz_ := zqA HB hb; replace hb := below_step hz_ hb; replace BK516 := zB BK516 hb; replace BK517 := zB BK517 hb; replace BK533 := zB BK533 hb; replace BK540 := zB BK540 hb; replace HB := zH HB hb; clear hz_; (try clear hb)) | (go_at_call 9; (with_reducible refine (armadalaw04_live.calls k4  true _ A126.out).mono ?_); rintro e w137 ⟨rfl, hb⟩; have hz_ := zqA HB hb; replace hb := below_step hz_ hb; replace BK516 := zB BK516 hb; replace BK517 := zB BK517 hb; replace BK533 := zB BK533 hb; replace BK540 := zB BK540 hb; replace HB := zH HB hb; clear hz_; (try clear hb)))
                 go_ret
                 exact ⟨eX, qH⟩
                ·replace c125 := Bool.eq_false_iff.mpr c125
                 subst c125
                 rw [if_neg nF_] at H
                 exact absurd H (by simp)
               ·rw [if_neg c123] at H
                have c123b0 : (t538 == (wrap64 (a1_0 + 1))) = false := beq_eq_false_iff_ne.mpr c123
                have c123b1 : (t538 != (wrap64 (a1_0 + 1))) = true := bne_iff_ne.mpr c123
                exact absurd H (by simp)
              ·rw [if_neg c122] at H
               have c122b0 : ((t535.length : Int) == 0) = false := beq_eq_false_iff_ne.mpr c122
               have c122b1 : ((t535.length : Int) != 0) = true := bne_iff_ne.mpr c122
               have c122b2 : ¬ (t535 = []) := fun h_ => c122 (by rw [h_]; rfl)
               exact absurd H (by simp)
       ·rw [if_neg c29] at H
        have c29b0 : (t524 == 0) = false := beq_eq_false_iff_ne.mpr c29
        have c29b1 : (t524 != 0) = true := bne_iff_ne.mpr c29
        replace H := Option.bind_eq_some_iff.mp H
        obtain ⟨t525, A1380, H⟩ := H
        try dsimp only at H
        have A138 := Aside0.mk A1380
        clear A1380
        obtain rfl := Option.some.inj H
        go_wp2_with (first | ((with_reducible refine gate_callee (f := 9) rfl ?_); refine gL (some 45) Try.func9 #[] ?_; (with_reducible refine (armadalaw04_live.calls kj22  true _ A138.out).mono ?_); rintro e w139 ⟨rfl, hb⟩; refine ⟨_, rfl, ?_⟩; have hz_ := zqA HB hb; replace hb := below_step hz_ hb; replace BK516 := zB BK516 hb; replace BK517 := zB BK517 hb; replace HB := zH HB hb; clear hz_; (try clear hb)))
        go_ret
        exact ⟨eX, qH⟩
end Go.Proofs.Ythoddglnfdmdeaa.P
