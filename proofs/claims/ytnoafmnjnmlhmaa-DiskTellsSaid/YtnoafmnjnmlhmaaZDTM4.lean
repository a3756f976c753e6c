/- Printed functions, merged. -/
import Derived.Test.YtnoafmnjnmlhmaaZDTM0
import Derived.Test.YtnoafmnjnmlhmaaZDTKSh
import Derived.Test.YtnoafmnjnmlhmaaZDTM2
import Derived.Test.YtnoafmnjnmlhmaaZDTM3
import Derived.Test.YtnoafmnjnmlhmaaZDTM1
import Derived.Test.YtnoafmnjnmlhmaaZDTKFlush
import Derived.Test.YtnoafmnjnmlhmaaZDTKGetC
import Derived.Test.YtnoafmnjnmlhmaaZDTKNewC
import Derived.Test.YtnoafmnjnmlhmaaZDTAl
namespace Go.Proofs.Ytnoafmnjnmlhmaa.P
open Go.RowKit Go.Proofs.YtnoafmnjnmlhmaaW.PrintWords Go.Proofs.YtnoafmnjnmlhmaaW.PrintLast Go.Proofs.YtnoafmnjnmlhmaaW.PrintMore
attribute [local go_sem] max2_int min2_int max_two min_two max_three min_three max_four min_four   -- for this text's walks alone
set_option linter.unusedVariables false
set_option linter.unusedSimpArgs false
mutual
def armadalaw01_DiskTells.j0 : Nat → List Bool → Bool → List ByteArray → List (S27) → Int → ByteArray → Option (Bool)
 | 0, _, _, _, _, _, _ => none
 | k + 1, x2, x40, x270000, x270001, x271000, x271001 => if x40 = true then ((armadalaw01_live.f k).bind fun t272 => (some t272)) else ((disk_Put.f k x270000 x270001 x271000 x271001).bind fun bt273 => ((armadaref01_Put.f k x270000 x270001 x271000 x271001).bind fun bt281 => ((disk_Get.f x270000 x270001 x271000).bind fun bt289 => ((armadaref01_Get.f k x270000 x270001 x271000).bind fun bt291 => ((armadaref01_Same.f k bt273.1 bt273.2.1 bt281.1 bt281.2.1).bind fun t293 => (if t293 = true then (if bt273.2.2 = bt281.2.2 then (if bt289.1.toList = bt291.1.toList then (if bt289.2 = bt291.2 then ((disk_May.f k x270000 x270001).bind fun t294 => ((armadaref01_May.f k x270000 x270001).bind fun t295 => (armadalaw01_DiskTells.j1 k x2 (t294 != t295) x270000 x270001 x271000 x271001 bt273.1 bt273.2.1))) else (armadalaw01_DiskTells.j1 k x2 true x270000 x270001 x271000 x271001 bt273.1 bt273.2.1)) else (armadalaw01_DiskTells.j1 k x2 true x270000 x270001 x271000 x271001 bt273.1 bt273.2.1)) else (armadalaw01_DiskTells.j1 k x2 true x270000 x270001 x271000 x271001 bt273.1 bt273.2.1)) else (armadalaw01_DiskTells.j1 k x2 true x270000 x270001 x271000 x271001 bt273.1 bt273.2.1)))))))
def armadalaw01_DiskTells.j1 : Nat → List Bool → Bool → List ByteArray → List (S27) → Int → ByteArray → List ByteArray → List (S27) → Option (Bool)
 | 0, _, _, _, _, _, _, _, _ => none
 | k + 1, x2, x99, x270000, x270001, x271000, x271001, x281000, x281001 => if x99 = true then (some false) else ((disk_Flush.f x270000 x270001).bind fun bt296 => ((armadaref01_Flush.f k x270000 x270001).bind fun bt304 => ((disk_Crash.f x270000 x270001 x2).bind fun bt312 => ((armadaref01_Crash.f k x270000 x270001 x2).bind fun bt320 => ((disk_New.f x271000).bind fun bt328 => ((armadaref01_New.f k x271000).bind fun bt336 => ((armadaref01_Same.f k bt296.1 bt296.2.1 bt304.1 bt304.2.1).bind fun t344 => (if t344 = true then (if bt296.2.2 = bt304.2.2 then ((armadaref01_Same.f k bt312.1 bt312.2.1 bt320.1 bt320.2.1).bind fun t345 => (if t345 = true then (if bt312.2.2 = bt320.2.2 then ((armadaref01_Same.f k bt328.1 bt328.2.1 bt336.1 bt336.2.1).bind fun t346 => (if t346 = true then (if (bt328.2.2 == bt336.2.2) = true then ((disk_Same.f k x270000 x270001 x281000 x281001).bind fun t347 => ((armadaref01_Same.f k x270000 x270001 x281000 x281001).bind fun t348 => (if (t347 == t348) = true then ((armadalaw01_live.f k).bind fun t349 => (some t349)) else (some false)))) else (some false)) else (some false))) else (some false)) else (some false))) else (some false)) else (some false)))))))))
end
def armadalaw01_DiskTells.f (k : Nat) (l0_0 : List ByteArray) (l0_1 : List (S27)) (a1_0 : Int) (a1_1 : ByteArray) (l2 : List Bool) : Option (Bool) := (armadaref01_Small.f k l0_0 l0_1).bind fun t271 => (if t271 = true then (if (a1_1.size : Int) > 100 then (armadalaw01_DiskTells.j0 k l2 true l0_0 l0_1 a1_0 a1_1) else (armadalaw01_DiskTells.j0 k l2 (decide ((l2.length : Int) > 1000)) l0_0 l0_1 a1_0 a1_1)) else (armadalaw01_DiskTells.j0 k l2 true l0_0 l0_1 a1_0 a1_1))
theorem armadalaw01_DiskTells.mono_l : ∀ k, (∀ y0 y1 y2 y3 y4 y5, LeO (armadalaw01_DiskTells.j0 k y0 y1 y2 y3 y4 y5) (armadalaw01_DiskTells.j0 (k + 1) y0 y1 y2 y3 y4 y5)) ∧ (∀ y0 y1 y2 y3 y4 y5 y6 y7, LeO (armadalaw01_DiskTells.j1 k y0 y1 y2 y3 y4 y5 y6 y7) (armadalaw01_DiskTells.j1 (k + 1) y0 y1 y2 y3 y4 y5 y6 y7))
 | 0 => ⟨fun _ _ _ _ _ _ r h => by simp [armadalaw01_DiskTells.j0] at h, fun _ _ _ _ _ _ _ _ r h => by simp [armadalaw01_DiskTells.j1] at h⟩
 | k + 1 => by
  obtain ⟨ih0, ih1⟩ := armadalaw01_DiskTells.mono_l k
  refine ⟨?_, ?_⟩
  ·intro y0 y1 y2 y3 y4 y5
   unfold armadalaw01_DiskTells.j0
   repeat' first
   | (with_reducible exact ih0 _ _ _ _ _ _)
   | (with_reducible exact ih1 _ _ _ _ _ _ _ _)
   | (with_reducible exact armadalaw01_live.mono _)
   | (with_reducible exact armadaref01_Crash.mono _ _ _ _)
   | (with_reducible exact armadaref01_Flush.mono _ _ _)
   | (with_reducible exact armadaref01_Get.mono _ _ _ _)
   | (with_reducible exact armadaref01_May.mono _ _ _)
   | (with_reducible exact armadaref01_New.mono _ _)
   | (with_reducible exact armadaref01_Put.mono _ _ _ _ _)
   | (with_reducible exact armadaref01_Same.mono _ _ _ _ _)
   | (with_reducible exact armadaref01_Small.mono _ _ _)
   | (with_reducible exact disk_May.mono _ _ _)
   | (with_reducible exact disk_Put.mono _ _ _ _ _)
   | (with_reducible exact disk_Same.mono _ _ _ _ _)
   | (with_reducible exact LeO.refl _)
   | (with_reducible exact LeO.none _)
   | (with_reducible refine LeO.ite ?_ ?_)
   | (with_reducible refine LeO.bind ?_ (fun _ => ?_))
   | exact ih0 _ _ _ _ _ _
   | exact ih1 _ _ _ _ _ _ _ _
   | exact armadalaw01_live.mono _
   | exact armadaref01_Crash.mono _ _ _ _
   | exact armadaref01_Flush.mono _ _ _
   | exact armadaref01_Get.mono _ _ _ _
   | exact armadaref01_May.mono _ _ _
   | exact armadaref01_New.mono _ _
   | exact armadaref01_Put.mono _ _ _ _ _
   | exact armadaref01_Same.mono _ _ _ _ _
   | exact armadaref01_Small.mono _ _ _
   | exact disk_May.mono _ _ _
   | exact disk_Put.mono _ _ _ _ _
   | exact disk_Same.mono _ _ _ _ _
   | exact LeO.none _
   | refine LeO.ite ?_ ?_
   | refine LeO.bind ?_ (fun _ => ?_)
  ·intro y0 y1 y2 y3 y4 y5 y6 y7
   unfold armadalaw01_DiskTells.j1
   repeat' first
   | (with_reducible exact ih0 _ _ _ _ _ _)
   | (with_reducible exact ih1 _ _ _ _ _ _ _ _)
   | (with_reducible exact armadalaw01_live.mono _)
   | (with_reducible exact armadaref01_Crash.mono _ _ _ _)
   | (with_reducible exact armadaref01_Flush.mono _ _ _)
   | (with_reducible exact armadaref01_Get.mono _ _ _ _)
   | (with_reducible exact armadaref01_May.mono _ _ _)
   | (with_reducible exact armadaref01_New.mono _ _)
   | (with_reducible exact armadaref01_Put.mono _ _ _ _ _)
   | (with_reducible exact armadaref01_Same.mono _ _ _ _ _)
   | (with_reducible exact armadaref01_Small.mono _ _ _)
   | (with_reducible exact disk_May.mono _ _ _)
   | (with_reducible exact disk_Put.mono _ _ _ _ _)
   | (with_reducible exact disk_Same.mono _ _ _ _ _)
   | (with_reducible exact LeO.refl _)
   | (with_reducible exact LeO.none _)
   | (with_reducible refine LeO.ite ?_ ?_)
   | (with_reducible refine LeO.bind ?_ (fun _ => ?_))
   | exact ih0 _ _ _ _ _ _
   | exact ih1 _ _ _ _ _ _ _ _
   | exact armadalaw01_live.mono _
   | exact armadaref01_Crash.mono _ _ _ _
   | exact armadaref01_Flush.mono _ _ _
   | exact armadaref01_Get.mono _ _ _ _
   | exact armadaref01_May.mono _ _ _
   | exact armadaref01_New.mono _ _
   | exact armadaref01_Put.mono _ _ _ _ _
   | exact armadaref01_Same.mono _ _ _ _ _
   | exact armadaref01_Small.mono _ _ _
   | exact disk_May.mono _ _ _
   | exact disk_Put.mono _ _ _ _ _
   | exact disk_Same.mono _ _ _ _ _
   | exact LeO.none _
   | refine LeO.ite ?_ ?_
   | refine LeO.bind ?_ (fun _ => ?_)
theorem armadalaw01_DiskTells.mono : ∀ a0 a1 a2 a3 a4 k, LeO (armadalaw01_DiskTells.f k a0 a1 a2 a3 a4) (armadalaw01_DiskTells.f (k + 1) a0 a1 a2 a3 a4) := by
 intro a0 a1 a2 a3 a4 k
 obtain ⟨ih0, ih1⟩ := armadalaw01_DiskTells.mono_l k
 unfold armadalaw01_DiskTells.f
 repeat' first
   | (with_reducible exact ih0 _ _ _ _ _ _)
   | (with_reducible exact ih1 _ _ _ _ _ _ _ _)
   | (with_reducible exact armadalaw01_live.mono _)
   | (with_reducible exact armadaref01_Crash.mono _ _ _ _)
   | (with_reducible exact armadaref01_Flush.mono _ _ _)
   | (with_reducible exact armadaref01_Get.mono _ _ _ _)
   | (with_reducible exact armadaref01_May.mono _ _ _)
   | (with_reducible exact armadaref01_New.mono _ _)
   | (with_reducible exact armadaref01_Put.mono _ _ _ _ _)
   | (with_reducible exact armadaref01_Same.mono _ _ _ _ _)
   | (with_reducible exact armadaref01_Small.mono _ _ _)
   | (with_reducible exact disk_May.mono _ _ _)
   | (with_reducible exact disk_Put.mono _ _ _ _ _)
   | (with_reducible exact disk_Same.mono _ _ _ _ _)
   | (with_reducible exact LeO.refl _)
   | (with_reducible exact LeO.none _)
   | (with_reducible refine LeO.ite ?_ ?_)
   | (with_reducible refine LeO.bind ?_ (fun _ => ?_))
   | exact ih0 _ _ _ _ _ _
   | exact ih1 _ _ _ _ _ _ _ _
   | exact armadalaw01_live.mono _
   | exact armadaref01_Crash.mono _ _ _ _
   | exact armadaref01_Flush.mono _ _ _
   | exact armadaref01_Get.mono _ _ _ _
   | exact armadaref01_May.mono _ _ _
   | exact armadaref01_New.mono _ _
   | exact armadaref01_Put.mono _ _ _ _ _
   | exact armadaref01_Same.mono _ _ _ _ _
   | exact armadaref01_Small.mono _ _ _
   | exact disk_May.mono _ _ _
   | exact disk_Put.mono _ _ _ _ _
   | exact disk_Same.mono _ _ _ _ _
   | exact LeO.none _
   | refine LeO.ite ?_ ?_
   | refine LeO.bind ?_ (fun _ => ?_)
def armadalaw01_DiskTells.T7 : Bool × List (List Nat × List Nat) := (true, [([], []), ([], []), ([0, 1], [0, 1]), ([2], [2]), ([3, 2], [3]), ([4], [4]), ([4], [4]), ([5, 6, 4], [4, 5, 6]), ([4, 7], [4, 7]), ([8, 4], [8]), ([9], [9]), ([9], [9]), ([10, 11, 9], [9, 10, 11]), ([9, 12], [9, 12]), ([13, 9], [13]), ([14], [14]), ([14], [14]), ([15, 16, 14], [14, 15, 16]), ([14, 17], [14, 17]), ([18, 14], [18]), ([19], [19]), ([20, 19, 19], [19, 20]), ([19], [19]), ([22, 21, 19], [19, 22]), ([21, 23, 19], [19, 21, 23]), ([19, 24], [19, 24])])
def armadalaw01_DiskTells.B7 : List Nat := [0, 0, 3, 7, 15, 31, 31, 127, 255, 511, 1023, 1023, 4095, 8191, 16383, 32767, 32767, 131071, 262143, 524287, 1048575, 2097151, 1048575, 8388607, 16777215, 33554431]
theorem armadalaw01_DiskTells.tab7 : rtab .any (opsOf Try.f3 7) = armadalaw01_DiskTells.T7 := by kernel_rfl
theorem armadalaw01_DiskTells.bits7 : waitsOk armadalaw01_DiskTells.T7.2 armadalaw01_DiskTells.B7 = true := by kernel_rfl
def armadalaw01_DiskTells.T15 : Bool × List (List Nat × List Nat) := (true, [([], []), ([], []), ([0, 1], [0, 1]), ([2, 2], [2]), ([3], [3]), ([3], [3]), ([4, 5, 3], [3, 4, 5]), ([3, 6], [3, 6]), ([7, 3], [7]), ([8], [8]), ([8], [8]), ([9, 10, 8, 8], [8, 9, 10]), ([8, 11], [8, 11]), ([12, 11], [12]), ([13], [13]), ([13], [13]), ([14, 15, 13], [13, 14, 15]), ([13, 16], [13, 16]), ([17, 13], [17]), ([18], [18]), ([18], [18]), ([19, 20, 18, 18], [18, 19, 20]), ([18, 21], [18, 21]), ([22, 21], [22]), ([23], [23]), ([23], [23]), ([24, 25, 23], [23, 24, 25]), ([23, 26], [23, 26]), ([27, 23], [27]), ([28], [28]), ([28], [28]), ([29, 30, 28, 28], [28, 29, 30]), ([28], [28]), ([28], [28]), ([32, 33, 31, 28], [28, 32, 33]), ([31, 34, 28], [28, 31, 34]), ([28, 35], [28, 35]), ([36, 34], [36]), ([37, 37], [37]), ([37, 38], [37, 38]), ([39, 38, 0, 1, 2, 3, 4, 5, 6, 7, 8, 9, 10, 11, 12, 13, 14, 15, 16, 17, 18, 19, 20, 21, 22, 23, 24, 25, 26, 27, 28, 29, 30, 31, 32, 33, 34, 35, 36, 37, 38, 39], [39])])
def armadalaw01_DiskTells.B15 : List Nat := [0, 0, 3, 7, 15, 15, 63, 127, 255, 511, 511, 2047, 4095, 8191, 16383, 16383, 65535, 131071, 262143, 524287, 524287, 2097151, 4194303, 8388607, 16777215, 16777215, 67108863, 134217727, 268435455, 536870911, 536870911, 2147483647, 536870911, 536870911, 17179869183, 34359738367, 68719476735, 137438953471, 274877906943, 549755813887, 1099511627775]
theorem armadalaw01_DiskTells.tab15 : rtab .any (opsOf Try.f3 15) = armadalaw01_DiskTells.T15 := by kernel_rfl
theorem armadalaw01_DiskTells.bits15 : waitsOk armadalaw01_DiskTells.T15.2 armadalaw01_DiskTells.B15 = true := by kernel_rfl
set_option maxHeartbeats 8000000 in
set_option maxRecDepth 100000 in
theorem armadalaw01_DiskTells.calls (k : Nat) (A0_0 : Option Addr) (c0_0 : Nat) (l0_0 : List ByteArray) (A0_1 : Option Addr) (c0_1 : Nat) (l0_1 : List (S27)) (a1_0 : Int) (a1_1 : ByteArray) (A2 : Option Addr) (c2 : Nat) (l2 : List Bool) (r : Bool) (w : World) (hr0_0 : Kd.C Kd.string w A0_0 l0_0.length l0_0) (hc0_0 : l0_0.length ≤ c0_0) (hr0_1 : Kd.C k27 w A0_1 l0_1.length l0_1) (hc0_1 : l0_1.length ≤ c0_1) (hr2 : Kd.C Kd.bool w A2 l2.length l2) (hc2 : l2.length ≤ c2) (h : armadalaw01_DiskTells.f k l0_0 l0_1 a1_0 a1_1 l2 = some r) (hT_ : r = true := by rfl) :
  Calls Try.prog 3 #[.agg #[.slice A0_0 l0_0.length c0_0, .slice A0_1 l0_1.length c0_1], .agg #[.int .i64 a1_0, .string a1_1], .slice A2 l2.length c2] w fun e w' => e = .returned (.bool r) ∧ Below w.heap.size w w' := by
 subst hT_
 have hu25 := Try.underlying25
 have hu27 := Try.underlying27
 have HR0_0 := aM_ hr0_0
 have HC0_0 := aM_ hc0_0
 clear hr0_0 hc0_0
 have HR0_1 := aM_ hr0_1
 have HC0_1 := aM_ hc0_1
 clear hr0_1 hc0_1
 have HR2 := aM_ hr2
 have HC2 := aM_ hc2
 clear hr2 hc2
 have HB := aM_ (Below.refl w.heap.size w)
 have H : ((armadaref01_Small.f k l0_0 l0_1).bind fun t271 => (if t271 = true then (if (a1_1.size : Int) > 100 then (armadalaw01_DiskTells.j0 k l2 true l0_0 l0_1 a1_0 a1_1) else (armadalaw01_DiskTells.j0 k l2 (decide ((l2.length : Int) > 1000)) l0_0 l0_1 a1_0 a1_1)) else (armadalaw01_DiskTells.j0 k l2 true l0_0 l0_1 a1_0 a1_1))) = some true := h
 clear h
 have HC4 := aM_ H
 clear H
 go_enter Try.func3, Try.ntmps3
 go_upto_region 1 with (first | ((with_reducible refine gate_dst (N := 3) rfl ?_); (try (refine gate_guard (by rfl) ?_; dsimp only)); refine box_event ?hg (N := 3) ?hd (cs := #[.slice A0_0 l0_0.length c0_0, .slice A0_1 l0_1.length c0_1]) (t := 25) ?hr ?_; (case hd => rfl); (case hg => rfl); (case hr => first | (go_simp; done) | (go_simp; rfl)); intro gb269 hg w5 hbox hb; have hz_ := zq HB (by repeat (first | (with_reducible first | exact Below.refl _ _ | apply yA_ | apply yN_ | apply yD_) | exact Below.refl _ _)) hb; replace hb := below_step hz_ hb; have BK269 := aM_ hbox; have GW269 := zG HB hz_ hg; have GE269 := zG HB hz_ hg; replace HB := zH HB hb; clear hz_; clear hb hbox hg) | ((with_reducible refine gate_dst (N := 4) rfl ?_); (try (refine gate_guard (by rfl) ?_; dsimp only)); refine box_event ?hg (N := 4) ?hd (cs := #[.int .i64 a1_0, .string a1_1]) (t := 27) ?hr ?_; (case hd => rfl); (case hg => rfl); (case hr => first | (go_simp; done) | (go_simp; rfl)); intro gb270 hg w6 hbox hb; have hz_ := zq HB (by repeat (first | (with_reducible first | exact Below.refl _ _ | apply yA_ | apply yN_ | apply yD_) | exact Below.refl _ _)) hb; replace hb := below_step hz_ hb; have BK270 := aM_ hbox; have GW270 := zG HB hz_ hg; have GE270 := zG HB hz_ hg; have NB269_270 := zN BK269 hz_ hg; have NB270_269 := zM BK269 hz_ hg; replace BK269 := zB BK269 hb; replace HB := zH HB hb; clear hz_; clear hb hbox hg))
 (try simp only [Act.put, sA_,sZ_,sS_])
 go_cut [40] (fun v40 wc => ∃ (kq : Nat) (x40_3 : Bool), v40 = .bool x40_3 ∧ Aside0 (armadalaw01_DiskTells.j0 kq l2 x40_3 l0_0 l0_1 a1_0 a1_1 = some true) ∧ Aside0 (kq ≤ k) ∧ Aside0 (wc.heap[gb269]? = some (.cells #[(.slice A0_0 l0_0.length c0_0), (.slice A0_1 l0_1.length c0_1)] 25 (0, 0))) ∧ Aside0 (wc.heap[gb270]? = some (.cells #[.int .i64 a1_0, .string a1_1] 27 (0, 0))) ∧ Aside0 (Below w.heap.size w wc))
 case first =>
  have H := HC4.out
  clear HC4
  replace H := Option.bind_eq_some_iff.mp H
  obtain ⟨t271, A70, H⟩ := H
  replace H : (if t271 = true then (if (a1_1.size : Int) > 100 then (armadalaw01_DiskTells.j0 k l2 true l0_0 l0_1 a1_0 a1_1) else (armadalaw01_DiskTells.j0 k l2 (decide ((l2.length : Int) > 1000)) l0_0 l0_1 a1_0 a1_1)) else (armadalaw01_DiskTells.j0 k l2 true l0_0 l0_1 a1_0 a1_1)) = some true := H
  have A7 := aM_ A70
  clear A70
  by_cases c8 : t271 = true
  ·subst c8
   have H1 : (if (a1_1.size : Int) > 100 then (armadalaw01_DiskTells.j0 k l2 true l0_0 l0_1 a1_0 a1_1) else (armadalaw01_DiskTells.j0 k l2 (decide ((l2.length : Int) > 1000)) l0_0 l0_1 a1_0 a1_1)) = some true := by rw [if_pos rfl] at H; exact H
   clear H
   have H := H1
   clear H1
   by_cases c9 : (a1_1.size : Int) > 100
   ·rw [if_pos c9] at H
    have c9b0 : decide (100 < (a1_1.size : Int)) = true := decide_eq_true c9
    have c9b1 : decide (100 < a1_1.size) = true := decide_eq_true (by omega)
    clear c9
    (first | rw [c9b0] | (simp only [i64_w, i32_w]; rw [c9b0]) | skip)
    have H' := aM_ H
    clear H
    have hnb10 := NB269_270.out
    have hnc10 := NB270_269.out
    have hcz11_0 : w6.cell? ⟨gb269, 0, none⟩ = some (.slice A0_0 l0_0.length c0_0) := (xC_ BK269.out 0).trans rfl
    have hcz11_1 : w6.cell? ⟨gb269, 1, none⟩ = some (.slice A0_1 l0_1.length c0_1) := (xC_ BK269.out 1).trans rfl
    have hfz11_0 := xF_ BK269.out 0
    have hfz11_1 := xF_ BK269.out 1
    go_wp2_with (first | ((with_reducible refine gate_callee (f := 9) rfl ?_); refine goesL_ (some 28) rfl rfl Try.func9 (by kernel_rfl) rfl #[.agg #[.slice A0_0 l0_0.length c0_0, .slice A0_1 l0_1.length c0_1]] rfl (by (try simp only [List.map_toArray, List.map_cons, List.map_nil]); first | done | rfl) ?_; (with_reducible refine (armadaref01_Small.calls k _ _ l0_0 _ _ l0_1 true _ ?side1 ?side2 ?side3 ?side4 A7.out).mono ?_); (case side1 => repeat (first | exact (Kd.C_below HR0_0.out HB.out) | (with_reducible refine Kd.C_alloc ?_ _) | (with_reducible refine Kd.C_drewN ?_ _) | (with_reducible refine Kd.C_drew ?_))); (case side2 => exact HC0_0.out); (case side3 => repeat (first | exact (Kd.C_below HR0_1.out HB.out) | (with_reducible refine Kd.C_alloc ?_ _) | (with_reducible refine Kd.C_drewN ?_ _) | (with_reducible refine Kd.C_drew ?_))); (case side4 => exact HC0_1.out); rintro e w12 ⟨rfl, hb⟩; refine ⟨_, rfl, ?_⟩; have hz_ := zq HB (by repeat (first | (with_reducible first | exact Below.refl _ _ | apply yA_ | apply yN_ | apply yD_) | exact Below.refl _ _)) hb; replace hb := below_step hz_ hb; replace BK269 := zB BK269 hb; replace BK270 := zB BK270 hb; replace HB := zH HB hb; clear hz_; (try clear hb); have hcz13_0 : w12.cell? ⟨gb270, 0, none⟩ = some (.int .i64 a1_0) := (xC_ BK270.out 0).trans rfl; have hcz13_1 : w12.cell? ⟨gb270, 1, none⟩ = some (.string a1_1) := (xC_ BK270.out 1).trans rfl; have hfz13_0 := xF_ BK270.out 0; have hfz13_1 := xF_ BK270.out 1))
    go_meet
    case rel => exact ⟨_, (true), (by first | rfl | (simp; done) | (simp [*]; done)), H', ⟨by first | omega | exact Nat.le_refl _⟩, ⟨by (with_reducible repeat (first | apply xN_ | apply xD_ | apply xA_)); exact BK269.out⟩, ⟨by (with_reducible repeat (first | apply xN_ | apply xD_ | apply xA_)); exact BK270.out⟩, ⟨by repeat (first | (with_reducible first | exact HB.out | apply yA_ | apply yN_ | apply yD_ | refine yS_ ?_ GE269.out | refine yS_ ?_ GE270.out) | exact HB.out)⟩⟩
   ·rw [if_neg c9] at H
    have c9b0 : decide (100 < (a1_1.size : Int)) = false := decide_eq_false c9
    have c9b1 : decide (100 < a1_1.size) = false := decide_eq_false (by omega)
    clear c9
    (first | rw [c9b0] | (simp only [i64_w, i32_w]; rw [c9b0]) | skip)
    have H' := aM_ H
    clear H
    have hnb14 := NB269_270.out
    have hnc14 := NB270_269.out
    have hcz15_0 : w6.cell? ⟨gb269, 0, none⟩ = some (.slice A0_0 l0_0.length c0_0) := (xC_ BK269.out 0).trans rfl
    have hcz15_1 : w6.cell? ⟨gb269, 1, none⟩ = some (.slice A0_1 l0_1.length c0_1) := (xC_ BK269.out 1).trans rfl
    have hfz15_0 := xF_ BK269.out 0
    have hfz15_1 := xF_ BK269.out 1
    go_wp2_with (first | ((with_reducible refine gate_callee (f := 9) rfl ?_); refine goesL_ (some 28) rfl rfl Try.func9 (by kernel_rfl) rfl #[.agg #[.slice A0_0 l0_0.length c0_0, .slice A0_1 l0_1.length c0_1]] rfl (by (try simp only [List.map_toArray, List.map_cons, List.map_nil]); first | done | rfl) ?_; (with_reducible refine (armadaref01_Small.calls k _ _ l0_0 _ _ l0_1 true _ ?side1 ?side2 ?side3 ?side4 A7.out).mono ?_); (case side1 => repeat (first | exact (Kd.C_below HR0_0.out HB.out) | (with_reducible refine Kd.C_alloc ?_ _) | (with_reducible refine Kd.C_drewN ?_ _) | (with_reducible refine Kd.C_drew ?_))); (case side2 => exact HC0_0.out); (case side3 => repeat (first | exact (Kd.C_below HR0_1.out HB.out) | (with_reducible refine Kd.C_alloc ?_ _) | (with_reducible refine Kd.C_drewN ?_ _) | (with_reducible refine Kd.C_drew ?_))); (case side4 => exact HC0_1.out); rintro e w16 ⟨rfl, hb⟩; refine ⟨_, rfl, ?_⟩; have hz_ := zq HB (by repeat (first | (with_reducible first | exact Below.refl _ _ | apply yA_ | apply yN_ | apply yD_) | exact Below.refl _ _)) hb; replace hb := below_step hz_ hb; replace BK269 := zB BK269 hb; replace BK270 := zB BK270 hb; replace HB := zH HB hb; clear hz_; (try clear hb); have hcz17_0 : w16.cell? ⟨gb270, 0, none⟩ = some (.int .i64 a1_0) := (xC_ BK270.out 0).trans rfl; have hcz17_1 : w16.cell? ⟨gb270, 1, none⟩ = some (.string a1_1) := (xC_ BK270.out 1).trans rfl; have hfz17_0 := xF_ BK270.out 0; have hfz17_1 := xF_ BK270.out 1))
    go_meet
    case rel => exact ⟨_, (decide ((l2.length : Int) > 1000)), (by first | rfl | (simp; done) | (simp [*]; done)), H', ⟨by first | omega | exact Nat.le_refl _⟩, ⟨by (with_reducible repeat (first | apply xN_ | apply xD_ | apply xA_)); exact BK269.out⟩, ⟨by (with_reducible repeat (first | apply xN_ | apply xD_ | apply xA_)); exact BK270.out⟩, ⟨by repeat (first | (with_reducible first | exact HB.out | apply yA_ | apply yN_ | apply yD_ | refine yS_ ?_ GE269.out | refine yS_ ?_ GE270.out) | exact HB.out)⟩⟩
  ·replace c8 := Bool.eq_false_iff.mpr c8
   subst c8
   have H1 : (armadalaw01_DiskTells.j0 k l2 true l0_0 l0_1 a1_0 a1_1) = some true := by rw [if_neg (show ¬ (false = true) by decide)] at H; exact H
   clear H
   have H := H1
   clear H1
   have H' := aM_ H
   clear H
   have hnb18 := NB269_270.out
   have hnc18 := NB270_269.out
   have hcz19_0 : w6.cell? ⟨gb269, 0, none⟩ = some (.slice A0_0 l0_0.length c0_0) := (xC_ BK269.out 0).trans rfl
   have hcz19_1 : w6.cell? ⟨gb269, 1, none⟩ = some (.slice A0_1 l0_1.length c0_1) := (xC_ BK269.out 1).trans rfl
   have hfz19_0 := xF_ BK269.out 0
   have hfz19_1 := xF_ BK269.out 1
   go_wp2_with (first | ((with_reducible refine gate_callee (f := 9) rfl ?_); refine goesL_ (some 28) rfl rfl Try.func9 (by kernel_rfl) rfl #[.agg #[.slice A0_0 l0_0.length c0_0, .slice A0_1 l0_1.length c0_1]] rfl (by (try simp only [List.map_toArray, List.map_cons, List.map_nil]); first | done | rfl) ?_; (with_reducible refine (armadaref01_Small.calls k _ _ l0_0 _ _ l0_1 false _ ?side1 ?side2 ?side3 ?side4 A7.out).mono ?_); (case side1 => repeat (first | exact (Kd.C_below HR0_0.out HB.out) | (with_reducible refine Kd.C_alloc ?_ _) | (with_reducible refine Kd.C_drewN ?_ _) | (with_reducible refine Kd.C_drew ?_))); (case side2 => exact HC0_0.out); (case side3 => repeat (first | exact (Kd.C_below HR0_1.out HB.out) | (with_reducible refine Kd.C_alloc ?_ _) | (with_reducible refine Kd.C_drewN ?_ _) | (with_reducible refine Kd.C_drew ?_))); (case side4 => exact HC0_1.out); rintro e w20 ⟨rfl, hb⟩; refine ⟨_, rfl, ?_⟩; have hz_ := zq HB (by repeat (first | (with_reducible first | exact Below.refl _ _ | apply yA_ | apply yN_ | apply yD_) | exact Below.refl _ _)) hb; replace hb := below_step hz_ hb; replace BK269 := zB BK269 hb; replace BK270 := zB BK270 hb; replace HB := zH HB hb; clear hz_; (try clear hb)))
   go_meet
   case rel => exact ⟨_, (true), (by first | rfl | (simp; done) | (simp [*]; done)), H', ⟨by first | omega | exact Nat.le_refl _⟩, ⟨by (with_reducible repeat (first | apply xN_ | apply xD_ | apply xA_)); exact BK269.out⟩, ⟨by (with_reducible repeat (first | apply xN_ | apply xD_ | apply xA_)); exact BK270.out⟩, ⟨by repeat (first | (with_reducible first | exact HB.out | apply yA_ | apply yN_ | apply yD_ | refine yS_ ?_ GE269.out | refine yS_ ?_ GE270.out) | exact HB.out)⟩⟩
 case rest =>
  clear HC4
  (try clear c1); (try clear c2); (try clear p2); (try clear c3); (try clear c8); (try clear c9); (try clear c9b0); (try clear c9b1); (try clear c10); (try clear c14)
  (try clear c18); (try clear hcz11_0); (try clear hcz11_1); (try clear hcz13_0); (try clear hcz13_1); (try clear hcz15_0); (try clear hcz15_1); (try clear hcz17_0)
  (try clear hcz17_1); (try clear hcz19_0); (try clear hcz19_1); (try clear hfz11_0); (try clear hfz11_1); (try clear hfz13_0); (try clear hfz13_1); (try clear hfz15_0)
  (try clear hfz15_1); (try clear hfz17_0); (try clear hfz17_1); (try clear hfz19_0); (try clear hfz19_1)
  obtain ⟨kq, x40_3, rfl, HA, HJ3, BK269, BK270, HB⟩ := hcut
  cases kq with
  | zero => exact absurd HA.out (by simp [armadalaw01_DiskTells.j0])
  | succ kj3 =>
   have H := HA.out
   clear HA
   simp only [armadalaw01_DiskTells.j0] at H
   by_cases c21 : x40_3 = true
   ·subst c21
    have H1 : ((armadalaw01_live.f kj3).bind fun t272 => (some t272)) = some true := by rw [if_pos rfl] at H; exact H
    clear H
    have H := H1
    clear H1
    replace H := Option.bind_eq_some_iff.mp H
    obtain ⟨t272, A220, H⟩ := H
    replace H : (some t272) = some true := H
    have A22 := aM_ A220
    clear A220
    obtain rfl := Option.some.inj H
    go_wp2_with (first | ((with_reducible refine gate_callee (f := 10) rfl ?_); refine goesL_ (some 41) rfl rfl Try.func10 (by kernel_rfl) rfl #[] rfl (by (try simp only [List.map_toArray, List.map_cons, List.map_nil]); first | done | rfl) ?_; (with_reducible refine (armadalaw01_live.calls kj3  true _ A22.out).mono ?_); rintro e w23 ⟨rfl, hb⟩; refine ⟨_, rfl, ?_⟩; have hz_ := zq HB (by repeat (first | (with_reducible first | exact Below.refl _ _ | apply yA_ | apply yN_ | apply yD_) | exact Below.refl _ _)) hb; replace hb := below_step hz_ hb; replace BK269 := zB BK269 hb; replace BK270 := zB BK270 hb; replace HB := zH HB hb; clear hz_; (try clear hb)))
    go_ret
    exact ⟨by first | rfl | (simp [errW_none, errW_some] <;> rfl) | (simp [*, errW_none, errW_some] <;> rfl), by repeat (first | (with_reducible first | exact HB.out | apply yA_ | apply yN_ | apply yD_ | refine yS_ ?_ GE269.out | refine yS_ ?_ GE270.out) | exact HB.out)⟩
   ·replace c21 := Bool.eq_false_iff.mpr c21
    subst c21
    have H1 : ((disk_Put.f kj3 l0_0 l0_1 a1_0 a1_1).bind fun bt273 => ((armadaref01_Put.f kj3 l0_0 l0_1 a1_0 a1_1).bind fun bt281 => ((disk_Get.f l0_0 l0_1 a1_0).bind fun bt289 => ((armadaref01_Get.f kj3 l0_0 l0_1 a1_0).bind fun bt291 => ((armadaref01_Same.f kj3 bt273.1 bt273.2.1 bt281.1 bt281.2.1).bind fun t293 => (if t293 = true then (if bt273.2.2 = bt281.2.2 then (if bt289.1.toList = bt291.1.toList then (if bt289.2 = bt291.2 then ((disk_May.f kj3 l0_0 l0_1).bind fun t294 => ((armadaref01_May.f kj3 l0_0 l0_1).bind fun t295 => (armadalaw01_DiskTells.j1 kj3 l2 (t294 != t295) l0_0 l0_1 a1_0 a1_1 bt273.1 bt273.2.1))) else (armadalaw01_DiskTells.j1 kj3 l2 true l0_0 l0_1 a1_0 a1_1 bt273.1 bt273.2.1)) else (armadalaw01_DiskTells.j1 kj3 l2 true l0_0 l0_1 a1_0 a1_1 bt273.1 bt273.2.1)) else (armadalaw01_DiskTells.j1 kj3 l2 true l0_0 l0_1 a1_0 a1_1 bt273.1 bt273.2.1)) else (armadalaw01_DiskTells.j1 kj3 l2 true l0_0 l0_1 a1_0 a1_1 bt273.1 bt273.2.1))))))) = some true := by rw [if_neg (show ¬ (false = true) by decide)] at H; exact H
    clear H
    have H := H1
    clear H1
    replace H := Option.bind_eq_some_iff.mp H
    obtain ⟨⟨t273, t276, t279⟩, A240, H⟩ := H
    replace H : ((armadaref01_Put.f kj3 l0_0 l0_1 a1_0 a1_1).bind fun bt281 => ((disk_Get.f l0_0 l0_1 a1_0).bind fun bt289 => ((armadaref01_Get.f kj3 l0_0 l0_1 a1_0).bind fun bt291 => ((armadaref01_Same.f kj3 t273 t276 bt281.1 bt281.2.1).bind fun t293 => (if t293 = true then (if t279 = bt281.2.2 then (if bt289.1.toList = bt291.1.toList then (if bt289.2 = bt291.2 then ((disk_May.f kj3 l0_0 l0_1).bind fun t294 => ((armadaref01_May.f kj3 l0_0 l0_1).bind fun t295 => (armadalaw01_DiskTells.j1 kj3 l2 (t294 != t295) l0_0 l0_1 a1_0 a1_1 t273 t276))) else (armadalaw01_DiskTells.j1 kj3 l2 true l0_0 l0_1 a1_0 a1_1 t273 t276)) else (armadalaw01_DiskTells.j1 kj3 l2 true l0_0 l0_1 a1_0 a1_1 t273 t276)) else (armadalaw01_DiskTells.j1 kj3 l2 true l0_0 l0_1 a1_0 a1_1 t273 t276)) else (armadalaw01_DiskTells.j1 kj3 l2 true l0_0 l0_1 a1_0 a1_1 t273 t276)))))) = some true := H
    have A24 := aM_ A240
    clear A240
    replace H := Option.bind_eq_some_iff.mp H
    obtain ⟨⟨t281, t284, t287⟩, A250, H⟩ := H
    replace H : ((disk_Get.f l0_0 l0_1 a1_0).bind fun bt289 => ((armadaref01_Get.f kj3 l0_0 l0_1 a1_0).bind fun bt291 => ((armadaref01_Same.f kj3 t273 t276 t281 t284).bind fun t293 => (if t293 = true then (if t279 = t287 then (if bt289.1.toList = bt291.1.toList then (if bt289.2 = bt291.2 then ((disk_May.f kj3 l0_0 l0_1).bind fun t294 => ((armadaref01_May.f kj3 l0_0 l0_1).bind fun t295 => (armadalaw01_DiskTells.j1 kj3 l2 (t294 != t295) l0_0 l0_1 a1_0 a1_1 t273 t276))) else (armadalaw01_DiskTells.j1 kj3 l2 true l0_0 l0_1 a1_0 a1_1 t273 t276)) else (armadalaw01_DiskTells.j1 kj3 l2 true l0_0 l0_1 a1_0 a1_1 t273 t276)) else (armadalaw01_DiskTells.j1 kj3 l2 true l0_0 l0_1 a1_0 a1_1 t273 t276)) else (armadalaw01_DiskTells.j1 kj3 l2 true l0_0 l0_1 a1_0 a1_1 t273 t276))))) = some true := H
    have A25 := aM_ A250
    clear A250
    replace H := Option.bind_eq_some_iff.mp H
    obtain ⟨⟨t289, t290⟩, A260, H⟩ := H
    replace H : ((armadaref01_Get.f kj3 l0_0 l0_1 a1_0).bind fun bt291 => ((armadaref01_Same.f kj3 t273 t276 t281 t284).bind fun t293 => (if t293 = true then (if t279 = t287 then (if t289.toList = bt291.1.toList then (if t290 = bt291.2 then ((disk_May.f kj3 l0_0 l0_1).bind fun t294 => ((armadaref01_May.f kj3 l0_0 l0_1).bind fun t295 => (armadalaw01_DiskTells.j1 kj3 l2 (t294 != t295) l0_0 l0_1 a1_0 a1_1 t273 t276))) else (armadalaw01_DiskTells.j1 kj3 l2 true l0_0 l0_1 a1_0 a1_1 t273 t276)) else (armadalaw01_DiskTells.j1 kj3 l2 true l0_0 l0_1 a1_0 a1_1 t273 t276)) else (armadalaw01_DiskTells.j1 kj3 l2 true l0_0 l0_1 a1_0 a1_1 t273 t276)) else (armadalaw01_DiskTells.j1 kj3 l2 true l0_0 l0_1 a1_0 a1_1 t273 t276)))) = some true := H
    have A26 := aM_ A260
    clear A260
    replace H := Option.bind_eq_some_iff.mp H
    obtain ⟨⟨t291, t292⟩, A270, H⟩ := H
    replace H : ((armadaref01_Same.f kj3 t273 t276 t281 t284).bind fun t293 => (if t293 = true then (if t279 = t287 then (if t289.toList = t291.toList then (if t290 = t292 then ((disk_May.f kj3 l0_0 l0_1).bind fun t294 => ((armadaref01_May.f kj3 l0_0 l0_1).bind fun t295 => (armadalaw01_DiskTells.j1 kj3 l2 (t294 != t295) l0_0 l0_1 a1_0 a1_1 t273 t276))) else (armadalaw01_DiskTells.j1 kj3 l2 true l0_0 l0_1 a1_0 a1_1 t273 t276)) else (armadalaw01_DiskTells.j1 kj3 l2 true l0_0 l0_1 a1_0 a1_1 t273 t276)) else (armadalaw01_DiskTells.j1 kj3 l2 true l0_0 l0_1 a1_0 a1_1 t273 t276)) else (armadalaw01_DiskTells.j1 kj3 l2 true l0_0 l0_1 a1_0 a1_1 t273 t276))) = some true := H
    have A27 := aM_ A270
    clear A270
    have HC28 := aM_ H
    clear H
    have hnb29 := NB269_270.out
    have hnc29 := NB270_269.out
    have hcz30_0 : wc.cell? ⟨gb269, 0, none⟩ = some (.slice A0_0 l0_0.length c0_0) := (xC_ BK269.out 0).trans rfl
    have hcz30_1 : wc.cell? ⟨gb269, 1, none⟩ = some (.slice A0_1 l0_1.length c0_1) := (xC_ BK269.out 1).trans rfl
    have hfz30_0 := xF_ BK269.out 0
    have hfz30_1 := xF_ BK269.out 1
    have hcz31_0 : wc.cell? ⟨gb270, 0, none⟩ = some (.int .i64 a1_0) := (xC_ BK270.out 0).trans rfl
    have hcz31_1 : wc.cell? ⟨gb270, 1, none⟩ = some (.string a1_1) := (xC_ BK270.out 1).trans rfl
    have hfz31_0 := xF_ BK270.out 0
    have hfz31_1 := xF_ BK270.out 1
    go_upto_region 7 with (first | ((with_reducible refine gate_callee (f := 11) rfl ?_); refine goesL_ (some 48) rfl rfl Try.func11 (by kernel_rfl) rfl #[.agg #[.slice A0_0 l0_0.length c0_0, .slice A0_1 l0_1.length c0_1], .int .i64 a1_0, .string a1_1] rfl (by (try simp only [List.map_toArray, List.map_cons, List.map_nil]); first | done | rfl) ?_; (with_reducible refine (disk_Put.calls kj3 (fun k_ => k_ < w.heap.size) _ _ l0_0 (fun k_ => k_ < w.heap.size) _ _ l0_1 a1_0 a1_1 t273 t276 t279 _ ?side1 ?side2 A24.out).mono ?_); (case side1 => exact Kd.V_mk HC0_0.out (Kd.F_below (Kd.C_F Kd.heap_string HR0_0.out) (by repeat (first | (with_reducible first | exact HB.out | apply yA_ | apply yN_ | apply yD_ | refine yS_ ?_ GE269.out | refine yS_ ?_ GE270.out) | exact HB.out)))); (case side2 => exact Kd.V_mk HC0_1.out (Kd.F_below (Kd.C_F k27_heap HR0_1.out) (by repeat (first | (with_reducible first | exact HB.out | apply yA_ | apply yN_ | apply yD_ | refine yS_ ?_ GE269.out | refine yS_ ?_ GE270.out) | exact HB.out)))); rintro e w32 ⟨v274, v277, rfl, ho0, ho1, hb⟩; refine ⟨_, rfl, ?_⟩; have hz_ := zq HB (by repeat (first | (with_reducible first | exact Below.refl _ _ | apply yA_ | apply yN_ | apply yD_) | exact Below.refl _ _)) hb; replace hb := below_step hz_ hb; have HO275 := aM_ (Kd.V_lower (hV_ (ok' := fun k_ => k_ ≠ gb269 ∧ k_ ≠ gb270) ho0 (fun k_ hk_ => ⟨Or.elim hk_ (fun hs_ => Or.elim hs_ (zg GW269) (zg GW269)) (zf BK269 hz_ k_), Or.elim hk_ (fun hs_ => Or.elim hs_ (zg GW270) (zg GW270)) (zf BK270 hz_ k_)⟩)) (zs HB hz_)); have HO278 := aM_ (Kd.V_lower (hV_ (ok' := fun k_ => k_ ≠ gb269 ∧ k_ ≠ gb270) ho1 (fun k_ hk_ => ⟨Or.elim hk_ (fun hs_ => Or.elim hs_ (zg GW269) (zg GW269)) (zf BK269 hz_ k_), Or.elim hk_ (fun hs_ => Or.elim hs_ (zg GW270) (zg GW270)) (zf BK270 hz_ k_)⟩)) (zs HB hz_)); replace BK269 := zB BK269 hb; replace BK270 := zB BK270 hb; replace HB := zH HB hb; clear hz_; (try clear hb); (try clear ho0); (try clear ho1)) | ((with_reducible refine gate_dst (N := 7) rfl ?_); (try (refine gate_guard (by rfl) ?_; dsimp only)); refine box_event ?hg (N := 7) ?hd (cs := #[.slice none 0 0, .slice none 0 0]) (t := 25) ?hr ?_; (case hd => rfl); (case hg => rfl); (case hr => first | (go_simp; done) | (go_simp; rfl)); intro gb280 hg w33 hbox hb; have hz_ := zq HB (by repeat (first | (with_reducible first | exact Below.refl _ _ | apply yA_ | apply yN_ | apply yD_) | exact Below.refl _ _)) hb; replace hb := below_step hz_ hb; replace HO275 := zE HO275 hz_ hg hb; replace HO278 := zE HO278 hz_ hg hb; have BK280 := aM_ hbox; have GW280 := zG HB hz_ hg; have GE280 := zG HB hz_ hg; have NB269_280 := zN BK269 hz_ hg; have NB280_269 := zM BK269 hz_ hg; have NB270_280 := zN BK270 hz_ hg; have NB280_270 := zM BK270 hz_ hg; replace BK269 := zB BK269 hb; replace BK270 := zB BK270 hb; replace HB := zH HB hb; clear hz_; clear hb hbox hg; obtain ⟨Ao34, co34, eo34⟩ := Kd.V_slice HO275.out; subst eo34; have hnb35 := NB280_269.out; have hnc35 := NB269_280.out; have hnb36 := NB280_270.out; have hnc36 := NB270_280.out; have hcz37_0 : w33.cell? ⟨gb280, 0, none⟩ = some (.slice none 0 0) := (xC_ BK280.out 0).trans rfl; have hcz37_1 : w33.cell? ⟨gb280, 1, none⟩ = some (.slice none 0 0) := (xC_ BK280.out 1).trans rfl; have hfz37_0 := xF_ BK280.out 0; have hfz37_1 := xF_ BK280.out 1; obtain ⟨Ao38, co38, eo38⟩ := Kd.V_slice HO278.out; subst eo38) | ((with_reducible refine gate_store (t := 25) (p := 7) rfl ?_); refine store_event (t := 25) (p := 7) (v := ?vo_w39) (w1 := ((w33.setCell ⟨gb280, 0, none⟩ (.slice Ao34 t273.length co34)).setCell ⟨gb280, 1, none⟩ (.slice Ao38 t276.length co38))) ?hg ?ho ?hn ?hr ?_; (case ho => rfl); (case hg => rfl); (case hn => rfl); (case hr => first | (go_simp; done) | (go_simp; rfl)); intro w39 hw; have n0_ : Aside0 (Kd.V Kd.string 9 w39 w.heap.size (fun k_ => k_ ≠ gb269 ∧ k_ ≠ gb270 ∧ k_ ≠ gb280) (.slice Ao34 t273.length co34) t273) := ⟨(by rw [hw]; exact (by (with_reducible repeat (first | apply vA_ | apply vN_ | apply vD_)); exact hV_ (fV_ (p := ⟨gb280, 1, none⟩) (fV_ (p := ⟨gb280, 0, none⟩) (hV_ HO275.out (fun k_ hk => (⟨hk, hk.2⟩ : _ ∧ k_ ≠ gb280))) (fun _ hk => hk.2) (.slice Ao34 t273.length co34)) (fun _ hk => hk.2) (.slice Ao38 t276.length co38)) (fun _ hk => ⟨hk.1.1.1, ⟨hk.1.1.2, hk.1.2⟩⟩)))⟩; have n1_ : Aside0 (Kd.V k27 27 w39 w.heap.size (fun k_ => k_ ≠ gb269 ∧ k_ ≠ gb270 ∧ k_ ≠ gb280) (.slice Ao38 t276.length co38) t276) := ⟨(by rw [hw]; exact (by (with_reducible repeat (first | apply vA_ | apply vN_ | apply vD_)); exact hV_ (fV_ (p := ⟨gb280, 1, none⟩) (fV_ (p := ⟨gb280, 0, none⟩) (hV_ HO278.out (fun k_ hk => (⟨hk, hk.2⟩ : _ ∧ k_ ≠ gb280))) (fun _ hk => hk.2) (.slice Ao34 t273.length co34)) (fun _ hk => hk.2) (.slice Ao38 t276.length co38)) (fun _ hk => ⟨hk.1.1.1, ⟨hk.1.1.2, hk.1.2⟩⟩)))⟩; have n2_ : Aside0 (w39.heap[gb269]? = some (.cells #[.slice A0_0 l0_0.length c0_0, .slice A0_1 l0_1.length c0_1] 25 (0, 0))) := ⟨(by rw [hw]; exact (by (with_reducible repeat (first | apply xN_ | apply xD_ | apply xA_)); refine xR_ ?_ NB269_280.out _; refine xR_ ?_ NB269_280.out _; (with_reducible repeat (first | apply xN_ | apply xD_ | apply xA_)); exact BK269.out))⟩; have n3_ : Aside0 (w39.heap[gb270]? = some (.cells #[.int .i64 a1_0, .string a1_1] 27 (0, 0))) := ⟨(by rw [hw]; exact (by (with_reducible repeat (first | apply xN_ | apply xD_ | apply xA_)); refine xR_ ?_ NB270_280.out _; refine xR_ ?_ NB270_280.out _; (with_reducible repeat (first | apply xN_ | apply xD_ | apply xA_)); exact BK270.out))⟩; have n4_ : Aside0 (w39.heap[gb280]? = some (.cells #[.slice Ao34 t273.length co34, .slice Ao38 t276.length co38] 25 (0, 0))) := ⟨(by rw [hw]; exact (by (with_reducible repeat (first | apply xN_ | apply xD_ | apply xA_)); refine blk_put (cs := #[.slice Ao34 t273.length co34, .slice none 0 0]) ?_ 1 _ rfl; refine blk_put (cs := #[.slice none 0 0, .slice none 0 0]) ?_ 0 _ rfl; (with_reducible repeat (first | apply xN_ | apply xD_ | apply xA_)); exact BK280.out))⟩; have n5_ : Aside0 (Below w.heap.size w w39) := ⟨(by rw [hw]; exact (by repeat (first | (with_reducible first | exact HB.out | apply yA_ | apply yN_ | apply yD_ | refine yS_ ?_ GE269.out | refine yS_ ?_ GE270.out | refine yS_ ?_ GE280.out) | exact HB.out)))⟩; clear hw; clear HO275; clear HO278; clear BK269; clear BK270; clear BK280; clear HB; have HO275 := n0_; have HO278 := n1_; have BK269 := n2_; have BK270 := n3_; have BK280 := n4_; have HB := n5_; clear n0_ n1_ n2_ n3_ n4_ n5_; have hcz40_0 : w39.cell? ⟨gb269, 0, none⟩ = some (.slice A0_0 l0_0.length c0_0) := (xC_ BK269.out 0).trans rfl; have hcz40_1 : w39.cell? ⟨gb269, 1, none⟩ = some (.slice A0_1 l0_1.length c0_1) := (xC_ BK269.out 1).trans rfl; have hfz40_0 := xF_ BK269.out 0; have hfz40_1 := xF_ BK269.out 1; have hcz41_0 : w39.cell? ⟨gb270, 0, none⟩ = some (.int .i64 a1_0) := (xC_ BK270.out 0).trans rfl; have hcz41_1 : w39.cell? ⟨gb270, 1, none⟩ = some (.string a1_1) := (xC_ BK270.out 1).trans rfl; have hfz41_0 := xF_ BK270.out 0; have hfz41_1 := xF_ BK270.out 1) | ((with_reducible refine gate_callee (f := 12) rfl ?_); refine goesL_ (some 57) rfl rfl Try.func12 (by kernel_rfl) rfl #[.agg #[.slice A0_0 l0_0.length c0_0, .slice A0_1 l0_1.length c0_1], .int .i64 a1_0, .string a1_1] rfl (by (try simp only [List.map_toArray, List.map_cons, List.map_nil]); first | done | rfl) ?_; (with_reducible refine (armadaref01_Put.calls kj3 (fun k_ => k_ < w.heap.size) _ _ l0_0 (fun k_ => k_ < w.heap.size) _ _ l0_1 a1_0 a1_1 t281 t284 t287 _ ?side1 ?side2 A25.out).mono ?_); (case side1 => exact Kd.V_mk HC0_0.out (Kd.F_below (Kd.C_F Kd.heap_string HR0_0.out) (by repeat (first | (with_reducible first | exact HB.out | apply yA_ | apply yN_ | apply yD_ | refine yS_ ?_ GE269.out | refine yS_ ?_ GE270.out | refine yS_ ?_ GE280.out) | exact HB.out)))); (case side2 => exact Kd.V_mk HC0_1.out (Kd.F_below (Kd.C_F k27_heap HR0_1.out) (by repeat (first | (with_reducible first | exact HB.out | apply yA_ | apply yN_ | apply yD_ | refine yS_ ?_ GE269.out | refine yS_ ?_ GE270.out | refine yS_ ?_ GE280.out) | exact HB.out)))); rintro e w42 ⟨v282, v285, rfl, ho0, ho1, hb⟩; refine ⟨_, rfl, ?_⟩; have hz_ := zq HB (by repeat (first | (with_reducible first | exact Below.refl _ _ | apply yA_ | apply yN_ | apply yD_) | exact Below.refl _ _)) hb; replace hb := below_step hz_ hb; replace HO275 := zV HO275 hb; replace HO278 := zV HO278 hb; have HO283 := aM_ (Kd.V_lower (hV_ (ok' := fun k_ => k_ ≠ gb269 ∧ k_ ≠ gb270 ∧ k_ ≠ gb280) ho0 (fun k_ hk_ => ⟨Or.elim hk_ (fun hs_ => Or.elim hs_ (zg GW269) (zg GW269)) (zf BK269 hz_ k_), Or.elim hk_ (fun hs_ => Or.elim hs_ (zg GW270) (zg GW270)) (zf BK270 hz_ k_), Or.elim hk_ (fun hs_ => Or.elim hs_ (zg GW280) (zg GW280)) (zf BK280 hz_ k_)⟩)) (zs HB hz_)); have HO286 := aM_ (Kd.V_lower (hV_ (ok' := fun k_ => k_ ≠ gb269 ∧ k_ ≠ gb270 ∧ k_ ≠ gb280) ho1 (fun k_ hk_ => ⟨Or.elim hk_ (fun hs_ => Or.elim hs_ (zg GW269) (zg GW269)) (zf BK269 hz_ k_), Or.elim hk_ (fun hs_ => Or.elim hs_ (zg GW270) (zg GW270)) (zf BK270 hz_ k_), Or.elim hk_ (fun hs_ => Or.elim hs_ (zg GW280) (zg GW280)) (zf BK280 hz_ k_)⟩)) (zs HB hz_)); replace BK269 := zB BK269 hb; replace BK270 := zB BK270 hb; replace BK280 := zB BK280 hb; replace HB := zH HB hb; clear hz_; (try clear hb); (try clear ho0); (try clear ho1)) | ((with_reducible refine gate_dst (N := 9) rfl ?_); (try (refine gate_guard (by rfl) ?_; dsimp only)); refine box_event ?hg (N := 9) ?hd (cs := #[.slice none 0 0, .slice none 0 0]) (t := 25) ?hr ?_; (case hd => rfl); (case hg => rfl); (case hr => first | (go_simp; done) | (go_simp; rfl)); intro gb288 hg w43 hbox hb; have hz_ := zq HB (by repeat (first | (with_reducible first | exact Below.refl _ _ | apply yA_ | apply yN_ | apply yD_) | exact Below.refl _ _)) hb; replace hb := below_step hz_ hb; replace HO275 := zE HO275 hz_ hg hb; replace HO278 := zE HO278 hz_ hg hb; replace HO283 := zE HO283 hz_ hg hb; replace HO286 := zE HO286 hz_ hg hb; have BK288 := aM_ hbox; have GW288 := zG HB hz_ hg; have GE288 := zG HB hz_ hg; have NB269_288 := zN BK269 hz_ hg; have NB288_269 := zM BK269 hz_ hg; have NB270_288 := zN BK270 hz_ hg; have NB288_270 := zM BK270 hz_ hg; have NB280_288 := zN BK280 hz_ hg; have NB288_280 := zM BK280 hz_ hg; replace BK269 := zB BK269 hb; replace BK270 := zB BK270 hb; replace BK280 := zB BK280 hb; replace HB := zH HB hb; clear hz_; clear hb hbox hg; obtain ⟨Ao44, co44, eo44⟩ := Kd.V_slice HO283.out; subst eo44; have hnb45 := NB288_269.out; have hnc45 := NB269_288.out; have hnb46 := NB288_270.out; have hnc46 := NB270_288.out; have hnb47 := NB288_280.out; have hnc47 := NB280_288.out; have hcz48_0 : w43.cell? ⟨gb288, 0, none⟩ = some (.slice none 0 0) := (xC_ BK288.out 0).trans rfl; have hcz48_1 : w43.cell? ⟨gb288, 1, none⟩ = some (.slice none 0 0) := (xC_ BK288.out 1).trans rfl; have hfz48_0 := xF_ BK288.out 0; have hfz48_1 := xF_ BK288.out 1; obtain ⟨Ao49, co49, eo49⟩ := Kd.V_slice HO286.out; subst eo49; have hcz50_0 : w43.cell? ⟨gb269, 0, none⟩ = some (.slice A0_0 l0_0.length c0_0) := (xC_ BK269.out 0).trans rfl; have hcz50_1 : w43.cell? ⟨gb269, 1, none⟩ = some (.slice A0_1 l0_1.length c0_1) := (xC_ BK269.out 1).trans rfl; have hfz50_0 := xF_ BK269.out 0; have hfz50_1 := xF_ BK269.out 1; have hcz51_0 : w43.cell? ⟨gb270, 0, none⟩ = some (.int .i64 a1_0) := (xC_ BK270.out 0).trans rfl; have hcz51_1 : w43.cell? ⟨gb270, 1, none⟩ = some (.string a1_1) := (xC_ BK270.out 1).trans rfl; have hfz51_0 := xF_ BK270.out 0; have hfz51_1 := xF_ BK270.out 1) | ((with_reducible refine gate_callee (f := 13) rfl ?_); refine goesL_ (some 64) rfl rfl Try.func13 (by kernel_rfl) rfl #[.agg #[.slice A0_0 l0_0.length c0_0, .slice A0_1 l0_1.length c0_1], .int .i64 a1_0] rfl (by (try simp only [List.map_toArray, List.map_cons, List.map_nil]); first | done | rfl) ?_; (with_reducible refine (disk_Get.calls _ _ l0_0 _ _ l0_1 a1_0 t289 t290 _ ?side1 ?side2 ?side3 ?side4 A26.out).mono ?_); (case side1 => exact Kd.C_below HR0_0.out (by repeat (first | (with_reducible first | exact HB.out | apply yA_ | apply yN_ | apply yD_ | refine yS_ ?_ GE269.out | refine yS_ ?_ GE270.out | refine yS_ ?_ GE280.out | refine yS_ ?_ GE288.out) | exact HB.out))); (case side2 => exact HC0_0.out); (case side3 => exact Kd.C_below HR0_1.out (by repeat (first | (with_reducible first | exact HB.out | apply yA_ | apply yN_ | apply yD_ | refine yS_ ?_ GE269.out | refine yS_ ?_ GE270.out | refine yS_ ?_ GE280.out | refine yS_ ?_ GE288.out) | exact HB.out))); (case side4 => exact HC0_1.out); rintro e w52 ⟨rfl, hb⟩; refine ⟨_, rfl, ?_⟩; have hz_ := zq2 HB gb288 (.slice Ao44 t281.length co44) (.slice Ao49 t284.length co49) (by repeat (first | (with_reducible first | exact Below.refl _ _ | apply yA_ | apply yN_ | apply yD_) | exact Below.refl _ _)) hb; replace hb := below_step hz_ hb; replace HO275 := zF HO275 (fun _ hk => hk.2) hb; replace HO278 := zF HO278 (fun _ hk => hk.2) hb; replace HO283 := zF HO283 (fun _ hk => hk.2) hb; replace HO286 := zF HO286 (fun _ hk => hk.2) hb; replace BK269 := zBF BK269 NB269_288 hb; replace BK270 := zBF BK270 NB270_288 hb; replace BK280 := zBF BK280 NB280_288 hb; replace BK288 := zBP BK288 hb; replace HB := zHF HB GE288 hb; clear hz_; (try clear hb); have hcz53_0 : w52.cell? ⟨gb269, 0, none⟩ = some (.slice A0_0 l0_0.length c0_0) := (xC_ BK269.out 0).trans rfl; have hcz53_1 : w52.cell? ⟨gb269, 1, none⟩ = some (.slice A0_1 l0_1.length c0_1) := (xC_ BK269.out 1).trans rfl; have hfz53_0 := xF_ BK269.out 0; have hfz53_1 := xF_ BK269.out 1; have hcz54_0 : w52.cell? ⟨gb270, 0, none⟩ = some (.int .i64 a1_0) := (xC_ BK270.out 0).trans rfl; have hcz54_1 : w52.cell? ⟨gb270, 1, none⟩ = some (.string a1_1) := (xC_ BK270.out 1).trans rfl; have hfz54_0 := xF_ BK270.out 0; have hfz54_1 := xF_ BK270.out 1) | ((with_reducible refine gate_callee (f := 14) rfl ?_); refine goesL_ (some 71) rfl rfl Try.func14 (by kernel_rfl) rfl #[.agg #[.slice A0_0 l0_0.length c0_0, .slice A0_1 l0_1.length c0_1], .int .i64 a1_0] rfl (by (try simp only [List.map_toArray, List.map_cons, List.map_nil]); first | done | rfl) ?_; (with_reducible refine (armadaref01_Get.calls kj3 _ _ l0_0 _ _ l0_1 a1_0 t291 t292 _ ?side1 ?side2 ?side3 ?side4 A27.out).mono ?_); (case side1 => repeat (first | exact (Kd.C_below HR0_0.out HB.out) | (with_reducible refine Kd.C_alloc ?_ _) | (with_reducible refine Kd.C_drewN ?_ _) | (with_reducible refine Kd.C_drew ?_))); (case side2 => exact HC0_0.out); (case side3 => repeat (first | exact (Kd.C_below HR0_1.out HB.out) | (with_reducible refine Kd.C_alloc ?_ _) | (with_reducible refine Kd.C_drewN ?_ _) | (with_reducible refine Kd.C_drew ?_))); (case side4 => exact HC0_1.out); rintro e w55 ⟨rfl, hb⟩; refine ⟨_, rfl, ?_⟩; have hz_ := zq HB (by repeat (first | (with_reducible first | exact Below.refl _ _ | apply yA_ | apply yN_ | apply yD_) | exact Below.refl _ _)) hb; replace hb := below_step hz_ hb; replace HO275 := zV HO275 hb; replace HO278 := zV HO278 hb; replace HO283 := zV HO283 hb; replace HO286 := zV HO286 hb; replace BK269 := zB BK269 hb; replace BK270 := zB BK270 hb; replace BK280 := zB BK280 hb; replace BK288 := zB BK288 hb; replace HB := zH HB hb; clear hz_; (try clear hb)))
    (try simp only [Act.put, sA_,sZ_,sS_])
    go_cut [99] (fun v99 wc => ∃ (kq : Nat) (x99_27 : Bool), v99 = .bool x99_27 ∧ Aside0 (armadalaw01_DiskTells.j1 kq l2 x99_27 l0_0 l0_1 a1_0 a1_1 t273 t276 = some true) ∧ Aside0 (kq ≤ kj3) ∧ Aside0 (Kd.V Kd.string 9 wc w.heap.size (fun k_ => k_ ≠ gb269 ∧ k_ ≠ gb270 ∧ k_ ≠ gb280 ∧ k_ ≠ gb288) (.slice Ao34 t273.length co34) t273) ∧ Aside0 (Kd.V k27 27 wc w.heap.size (fun k_ => k_ ≠ gb269 ∧ k_ ≠ gb270 ∧ k_ ≠ gb280 ∧ k_ ≠ gb288) (.slice Ao38 t276.length co38) t276) ∧ Aside0 (Kd.V Kd.string 9 wc w.heap.size (fun k_ => k_ ≠ gb269 ∧ k_ ≠ gb270 ∧ k_ ≠ gb280 ∧ k_ ≠ gb288) (.slice Ao44 t281.length co44) t281) ∧ Aside0 (Kd.V k27 27 wc w.heap.size (fun k_ => k_ ≠ gb269 ∧ k_ ≠ gb270 ∧ k_ ≠ gb280 ∧ k_ ≠ gb288) (.slice Ao49 t284.length co49) t284) ∧ Aside0 (wc.heap[gb269]? = some (.cells #[(.slice A0_0 l0_0.length c0_0), (.slice A0_1 l0_1.length c0_1)] 25 (0, 0))) ∧ Aside0 (wc.heap[gb270]? = some (.cells #[.int .i64 a1_0, .string a1_1] 27 (0, 0))) ∧ Aside0 (wc.heap[gb280]? = some (.cells #[(.slice Ao34 t273.length co34), (.slice Ao38 t276.length co38)] 25 (0, 0))) ∧ Aside0 (wc.heap[gb288]? = some (.cells #[(.slice Ao44 t281.length co44), (.slice Ao49 t284.length co49)] 25 (0, 0))) ∧ Aside0 (Below w.heap.size w wc))
    case first =>
     have H := HC28.out
     clear HC28
     replace H := Option.bind_eq_some_iff.mp H
     obtain ⟨t293, A560, H⟩ := H
     replace H : (if t293 = true then (if t279 = t287 then (if t289.toList = t291.toList then (if t290 = t292 then ((disk_May.f kj3 l0_0 l0_1).bind fun t294 => ((armadaref01_May.f kj3 l0_0 l0_1).bind fun t295 => (armadalaw01_DiskTells.j1 kj3 l2 (t294 != t295) l0_0 l0_1 a1_0 a1_1 t273 t276))) else (armadalaw01_DiskTells.j1 kj3 l2 true l0_0 l0_1 a1_0 a1_1 t273 t276)) else (armadalaw01_DiskTells.j1 kj3 l2 true l0_0 l0_1 a1_0 a1_1 t273 t276)) else (armadalaw01_DiskTells.j1 kj3 l2 true l0_0 l0_1 a1_0 a1_1 t273 t276)) else (armadalaw01_DiskTells.j1 kj3 l2 true l0_0 l0_1 a1_0 a1_1 t273 t276)) = some true := H
     have A56 := aM_ A560
     clear A560
     by_cases c57 : t293 = true
     ·subst c57
      have H1 : (if t279 = t287 then (if t289.toList = t291.toList then (if t290 = t292 then ((disk_May.f kj3 l0_0 l0_1).bind fun t294 => ((armadaref01_May.f kj3 l0_0 l0_1).bind fun t295 => (armadalaw01_DiskTells.j1 kj3 l2 (t294 != t295) l0_0 l0_1 a1_0 a1_1 t273 t276))) else (armadalaw01_DiskTells.j1 kj3 l2 true l0_0 l0_1 a1_0 a1_1 t273 t276)) else (armadalaw01_DiskTells.j1 kj3 l2 true l0_0 l0_1 a1_0 a1_1 t273 t276)) else (armadalaw01_DiskTells.j1 kj3 l2 true l0_0 l0_1 a1_0 a1_1 t273 t276)) = some true := by rw [if_pos rfl] at H; exact H
      clear H
      have H := H1
      clear H1
      by_cases c58 : t279 = t287
      ·rw [if_pos c58] at H
       have c58b0 : (t279 == t287) = true := beq_iff_eq.mpr c58
       have c58b1 : (t279 != t287) = false := bne_eq_false_iff_eq.mpr c58
       clear c58
       (first | rw [c58b0] | (simp only [i64_w, i32_w]; rw [c58b0]) | skip)
       by_cases c59 : t289.toList = t291.toList
       ·rw [if_pos c59] at H
        have c59b0 : (t289.toList == t291.toList) = true := beq_iff_eq.mpr c59
        have c59b1 : (t289.toList != t291.toList) = false := bne_eq_false_iff_eq.mpr c59
        clear c59
        by_cases c60 : t290 = t292
        ·rw [if_pos c60] at H
         have c60b0 : (t290 == t292) = true := beq_iff_eq.mpr c60
         have c60b1 : (t290 != t292) = false := bne_eq_false_iff_eq.mpr c60
         clear c60
         replace H := Option.bind_eq_some_iff.mp H
         obtain ⟨t294, A610, H⟩ := H
         replace H : ((armadaref01_May.f kj3 l0_0 l0_1).bind fun t295 => (armadalaw01_DiskTells.j1 kj3 l2 (t294 != t295) l0_0 l0_1 a1_0 a1_1 t273 t276)) = some true := H
         have A61 := aM_ A610
         clear A610
         replace H := Option.bind_eq_some_iff.mp H
         obtain ⟨t295, A620, H⟩ := H
         replace H : (armadalaw01_DiskTells.j1 kj3 l2 (t294 != t295) l0_0 l0_1 a1_0 a1_1 t273 t276) = some true := H
         have A62 := aM_ A620
         clear A620
         have H' := aM_ H
         clear H
         try go_wp2
         replace HO275 := aM_ (vD_ HO275.out)
         replace HO278 := aM_ (vD_ HO278.out)
         replace HO283 := aM_ (vD_ HO283.out)
         replace HO286 := aM_ (vD_ HO286.out)
         replace BK269 := aM_ (xD_ BK269.out)
         replace BK270 := aM_ (xD_ BK270.out)
         replace BK280 := aM_ (xD_ BK280.out)
         replace BK288 := aM_ (xD_ BK288.out)
         replace HB := aM_ (yD_ HB.out)
         refine start_ (n := 26) (S := fun w' => w'.cell? ⟨gb280, 0, none⟩ = some (.slice Ao34 t273.length co34) ∧ w'.cell? ⟨gb280, 1, none⟩ = some (.slice Ao38 t276.length co38) ∧ w'.cell? ⟨gb288, 0, none⟩ = some (.slice Ao44 t281.length co44) ∧ w'.cell? ⟨gb288, 1, none⟩ = some (.slice Ao49 t284.length co49) ∧ w'.cell? ⟨gb269, 0, none⟩ = some (.slice A0_0 l0_0.length c0_0) ∧ w'.cell? ⟨gb269, 1, none⟩ = some (.slice A0_1 l0_1.length c0_1)) (ds := []) #[F_,F_,F_,F_,F_,F_,F_,F_,F_,F_,F_,F_,F_,F_,F_,F_,F_,F_,F_,F_,F_,F_,F_,F_,F_,F_] (by kernel_rfl) rfl rfl ⟨(xC_ BK280.out 0).trans rfl, (xC_ BK280.out 1).trans rfl, (xC_ BK288.out 0).trans rfl, (xC_ BK288.out 1).trans rfl, (xC_ BK269.out 0).trans rfl, (xC_ BK269.out 1).trans rfl⟩ (fun hHeld => ?_); refine with_tabW armadalaw01_DiskTells.tab7 armadalaw01_DiskTells.bits7 (fun HT_ HW_ => ?_)
         generalize w55.drew = w63 at HO275 HO278 HO283 HO286 BK269 BK270 BK280 BK288 HB hHeld ⊢
         refine take_ (i := 0) (N := some 74) (v := ?_) (a' := ?_) #[T_,F_,F_,F_,F_,F_,F_,F_,F_,F_,F_,F_,F_,F_,F_,F_,F_,F_,F_,F_,F_,F_,F_,F_,F_,F_] rfl rfl (take_ofW HT_.out HW_.out (by kernel_rfl)) (fun _ _ _ h => h) (Or.inl ⟨by rfl, ?_⟩) hHeld ?_ ?_
         rotate_left
         ·rintro w' ⟨s0, s1, s2, s3, s4, s5⟩
          go_simp
          with_reducible rfl
         rotate_left; ·simp only [Act.put, sA_,sZ_,sS_, i64_w, i32_w]; rfl
         refine take_ (i := 1) (N := some 75) (v := ?_) (a' := ?_) #[T_,T_,F_,F_,F_,F_,F_,F_,F_,F_,F_,F_,F_,F_,F_,F_,F_,F_,F_,F_,F_,F_,F_,F_,F_,F_] rfl rfl (take_ofW HT_.out HW_.out (by kernel_rfl)) (fun _ _ _ h => h) (Or.inl ⟨by rfl, ?_⟩) hHeld ?_ ?_
         rotate_left
         ·rintro w' ⟨s0, s1, s2, s3, s4, s5⟩
          go_simp
          with_reducible rfl
         rotate_left; ·simp only [Act.put, sA_,sZ_,sS_, i64_w, i32_w]; rfl
         refine one_ (i := 2) (N := some 76) #[T_,T_,T_,F_,F_,F_,F_,F_,F_,F_,F_,F_,F_,F_,F_,F_,F_,F_,F_,F_,F_,F_,F_,F_,F_,F_] rfl rfl (one_of HT_.out (by kernel_rfl)) (by decide) (fun K hK => ?_)
         refine goes_ Try.func15 (by kernel_rfl) rfl #[.agg #[.slice Ao34 t273.length co34, .slice Ao38 t276.length co38], .agg #[.slice Ao44 t281.length co44, .slice Ao49 t284.length co49]] (by rfl) rfl rfl (by (try simp only [List.map_toArray, List.map_cons, List.map_nil]); first | done | rfl) ?_
         with_reducible refine (armadaref01_Same.calls kj3 _ _ t273 _ _ t276 _ _ t281 _ _ t284 true _ ?side1 ?side2 ?side3 ?side4 ?side5 ?side6 ?side7 ?side8 A56.out).mono ?_
         (case side1 => repeat (first | exact (Kd.V_reads' HO275.out).2.2 | (with_reducible refine Kd.C_alloc ?_ _) | (with_reducible refine Kd.C_drewN ?_ _) | (with_reducible refine Kd.C_drew ?_)))
         (case side2 => exact (Kd.V_reads' HO275.out).2.1)
         (case side3 => repeat (first | exact (Kd.V_reads' HO278.out).2.2 | (with_reducible refine Kd.C_alloc ?_ _) | (with_reducible refine Kd.C_drewN ?_ _) | (with_reducible refine Kd.C_drew ?_)))
         (case side4 => exact (Kd.V_reads' HO278.out).2.1)
         (case side5 => repeat (first | exact (Kd.V_reads' HO283.out).2.2 | (with_reducible refine Kd.C_alloc ?_ _) | (with_reducible refine Kd.C_drewN ?_ _) | (with_reducible refine Kd.C_drew ?_)))
         (case side6 => exact (Kd.V_reads' HO283.out).2.1)
         (case side7 => repeat (first | exact (Kd.V_reads' HO286.out).2.2 | (with_reducible refine Kd.C_alloc ?_ _) | (with_reducible refine Kd.C_drewN ?_ _) | (with_reducible refine Kd.C_drew ?_)))
         (case side8 => exact (Kd.V_reads' HO286.out).2.1)
         rintro e w64 ⟨rfl, hb⟩
         refine ⟨_, rfl, ?_⟩
         have hz_ := zq HB (by repeat (first | (with_reducible first | exact Below.refl _ _ | apply yA_ | apply yN_ | apply yD_) | exact Below.refl _ _)) hb
         replace hb := below_step hz_ hb
         replace HO275 := zV HO275 hb
         replace HO278 := zV HO278 hb
         replace HO283 := zV HO283 hb
         replace HO286 := zV HO286 hb
         replace BK269 := zB BK269 hb
         replace BK270 := zB BK270 hb
         replace BK280 := zB BK280 hb
         replace BK288 := zB BK288 hb
         replace HB := zH HB hb
         clear hz_
         (try clear hb)
         (try clear hb2)
         (try clear hk)
         (try clear hi)
         refine hK.out _ _ ⟨(xC_ BK280.out 0).trans rfl, (xC_ BK280.out 1).trans rfl, (xC_ BK288.out 0).trans rfl, (xC_ BK288.out 1).trans rfl, (xC_ BK269.out 0).trans rfl, (xC_ BK269.out 1).trans rfl⟩ (fun hHeld => ?_)
         clear hK K
         refine norm_ (a' := ?_) ?_ ?_
         rotate_left
         ·show Act.put _ (some 76) _ = _
          simp only [Act.put, sA_,sZ_,sS_, i64_w, i32_w]
          rfl
         refine pure_ (i := 3) (N := some 77) (v := ?_) (a' := ?_) #[T_,T_,T_,T_,F_,F_,F_,F_,F_,F_,F_,F_,F_,F_,F_,F_,F_,F_,F_,F_,F_,F_,F_,F_,F_,F_] rfl rfl (any_of HT_.out (by kernel_rfl)) (fun _ _ _ h => h) (Or.inl ⟨by rfl, ?_⟩) ?_ ?_
         rotate_left; ·intro w'; go_simp; with_reducible rfl
         rotate_left; ·simp only [Act.put, sA_,sZ_,sS_, i64_w, i32_w]; rfl
         refine pure_ (i := 4) (N := some 78) (v := ?_) (a' := ?_) #[T_,T_,T_,T_,T_,F_,F_,F_,F_,F_,F_,F_,F_,F_,F_,F_,F_,F_,F_,F_,F_,F_,F_,F_,F_,F_] rfl rfl (any_of HT_.out (by kernel_rfl)) (fun _ _ _ h => h) (Or.inl ⟨by rfl, ?_⟩) ?_ ?_
         rotate_left; ·intro w'; go_simp; with_reducible rfl
         rotate_left; ·simp only [Act.put, sA_,sZ_,sS_, i64_w, i32_w]; rfl
         refine pure_ (i := 5) (N := some 79) (v := ?_) (a' := ?_) #[T_,T_,T_,T_,T_,T_,F_,F_,F_,F_,F_,F_,F_,F_,F_,F_,F_,F_,F_,F_,F_,F_,F_,F_,F_,F_] rfl rfl (any_of HT_.out (by kernel_rfl)) (fun _ _ _ h => h) (Or.inl ⟨by rfl, ?_⟩) ?_ ?_
         rotate_left; ·intro w'; go_simp; with_reducible rfl
         rotate_left; ·simp only [Act.put, sA_,sZ_,sS_, i64_w, i32_w]; rfl
         refine pure_ (i := 6) (N := some 80) (v := ?_) (a' := ?_) #[T_,T_,T_,T_,T_,T_,T_,F_,F_,F_,F_,F_,F_,F_,F_,F_,F_,F_,F_,F_,F_,F_,F_,F_,F_,F_] rfl rfl (any_of HT_.out (by kernel_rfl)) (fun _ _ _ h => h) (Or.inl ⟨by rfl, ?_⟩) ?_ ?_
         rotate_left; ·intro w'; go_simp; with_reducible rfl
         rotate_left; ·simp only [Act.put, sA_,sZ_,sS_, i64_w, i32_w]; rfl
         refine pure_ (i := 7) (N := some 81) (v := ?_) (a' := ?_) #[T_,T_,T_,T_,T_,T_,T_,T_,F_,F_,F_,F_,F_,F_,F_,F_,F_,F_,F_,F_,F_,F_,F_,F_,F_,F_] rfl rfl (any_of HT_.out (by kernel_rfl)) (fun _ _ _ h => h) (Or.inl ⟨by rfl, ?_⟩) ?_ ?_
         rotate_left; ·intro w'; go_simp; with_reducible rfl
         rotate_left; ·simp only [Act.put, sA_,sZ_,sS_, i64_w, i32_w]; rfl
         refine pure_ (i := 8) (N := some 82) (v := ?_) (a' := ?_) #[T_,T_,T_,T_,T_,T_,T_,T_,T_,F_,F_,F_,F_,F_,F_,F_,F_,F_,F_,F_,F_,F_,F_,F_,F_,F_] rfl rfl (any_of HT_.out (by kernel_rfl)) (fun _ _ _ h => h) (Or.inl ⟨by rfl, ?_⟩) ?_ ?_
         rotate_left; ·intro w'; go_simp; with_reducible rfl
         rotate_left; ·simp only [Act.put, sA_,sZ_,sS_, i64_w, i32_w]; rfl
         refine pure_ (i := 9) (N := some 83) (v := ?_) (a' := ?_) #[T_,T_,T_,T_,T_,T_,T_,T_,T_,T_,F_,F_,F_,F_,F_,F_,F_,F_,F_,F_,F_,F_,F_,F_,F_,F_] rfl rfl (any_of HT_.out (by kernel_rfl)) (fun _ _ _ h => h) (Or.inl ⟨by rfl, ?_⟩) ?_ ?_
         rotate_left; ·intro w'; go_simp; with_reducible rfl
         rotate_left; ·simp only [Act.put, sA_,sZ_,sS_, i64_w, i32_w]; rfl
         refine pure_ (i := 10) (N := some 84) (v := ?_) (a' := ?_) #[T_,T_,T_,T_,T_,T_,T_,T_,T_,T_,T_,F_,F_,F_,F_,F_,F_,F_,F_,F_,F_,F_,F_,F_,F_,F_] rfl rfl (any_of HT_.out (by kernel_rfl)) (fun _ _ _ h => h) (Or.inl ⟨by rfl, ?_⟩) ?_ ?_
         rotate_left; ·intro w'; go_simp; with_reducible rfl
         rotate_left; ·simp only [Act.put, sA_,sZ_,sS_, i64_w, i32_w]; rfl
         refine pure_ (i := 11) (N := some 85) (v := ?_) (a' := ?_) #[T_,T_,T_,T_,T_,T_,T_,T_,T_,T_,T_,T_,F_,F_,F_,F_,F_,F_,F_,F_,F_,F_,F_,F_,F_,F_] rfl rfl (any_of HT_.out (by kernel_rfl)) (fun _ _ _ h => h) (Or.inl ⟨by rfl, ?_⟩) ?_ ?_
         rotate_left; ·intro w'; go_simp; with_reducible rfl
         rotate_left; ·simp only [Act.put, sA_,sZ_,sS_, i64_w, i32_w]; rfl
         refine pure_ (i := 12) (N := some 86) (v := ?_) (a' := ?_) #[T_,T_,T_,T_,T_,T_,T_,T_,T_,T_,T_,T_,T_,F_,F_,F_,F_,F_,F_,F_,F_,F_,F_,F_,F_,F_] rfl rfl (any_of HT_.out (by kernel_rfl)) (fun _ _ _ h => h) (Or.inl ⟨by rfl, ?_⟩) ?_ ?_
         rotate_left; ·intro w'; go_simp; with_reducible rfl
         rotate_left; ·simp only [Act.put, sA_,sZ_,sS_, i64_w, i32_w]; rfl
         refine pure_ (i := 13) (N := some 87) (v := ?_) (a' := ?_) #[T_,T_,T_,T_,T_,T_,T_,T_,T_,T_,T_,T_,T_,T_,F_,F_,F_,F_,F_,F_,F_,F_,F_,F_,F_,F_] rfl rfl (any_of HT_.out (by kernel_rfl)) (fun _ _ _ h => h) (Or.inl ⟨by rfl, ?_⟩) ?_ ?_
         rotate_left; ·intro w'; go_simp; with_reducible rfl
         rotate_left; ·simp only [Act.put, sA_,sZ_,sS_, i64_w, i32_w]; rfl
         refine pure_ (i := 14) (N := some 88) (v := ?_) (a' := ?_) #[T_,T_,T_,T_,T_,T_,T_,T_,T_,T_,T_,T_,T_,T_,T_,F_,F_,F_,F_,F_,F_,F_,F_,F_,F_,F_] rfl rfl (any_of HT_.out (by kernel_rfl)) (fun _ _ _ h => h) (Or.inl ⟨by rfl, ?_⟩) ?_ ?_
         rotate_left; ·intro w'; go_simp; with_reducible rfl
         rotate_left; ·simp only [Act.put, sA_,sZ_,sS_, i64_w, i32_w]; rfl
         refine pure_ (i := 15) (N := some 89) (v := ?_) (a' := ?_) #[T_,T_,T_,T_,T_,T_,T_,T_,T_,T_,T_,T_,T_,T_,T_,T_,F_,F_,F_,F_,F_,F_,F_,F_,F_,F_] rfl rfl (any_of HT_.out (by kernel_rfl)) (fun _ _ _ h => h) (Or.inl ⟨by rfl, ?_⟩) ?_ ?_
         rotate_left; ·intro w'; go_simp; with_reducible rfl
         rotate_left; ·simp only [Act.put, sA_,sZ_,sS_, i64_w, i32_w]; rfl
         refine pure_ (i := 16) (N := some 90) (v := ?_) (a' := ?_) #[T_,T_,T_,T_,T_,T_,T_,T_,T_,T_,T_,T_,T_,T_,T_,T_,T_,F_,F_,F_,F_,F_,F_,F_,F_,F_] rfl rfl (any_of HT_.out (by kernel_rfl)) (fun _ _ _ h => h) (Or.inl ⟨by rfl, ?_⟩) ?_ ?_
         rotate_left; ·intro w'; go_simp; with_reducible rfl
         rotate_left; ·simp only [Act.put, sA_,sZ_,sS_, i64_w, i32_w]; rfl
         refine pure_ (i := 17) (N := some 91) (v := ?_) (a' := ?_) #[T_,T_,T_,T_,T_,T_,T_,T_,T_,T_,T_,T_,T_,T_,T_,T_,T_,T_,F_,F_,F_,F_,F_,F_,F_,F_] rfl rfl (any_of HT_.out (by kernel_rfl)) (fun _ _ _ h => h) (Or.inl ⟨by rfl, ?_⟩) ?_ ?_
         rotate_left; ·intro w'; go_simp; with_reducible rfl
         rotate_left; ·simp only [Act.put, sA_,sZ_,sS_, i64_w, i32_w]; rfl
         refine pure_ (i := 18) (N := some 92) (v := ?_) (a' := ?_) #[T_,T_,T_,T_,T_,T_,T_,T_,T_,T_,T_,T_,T_,T_,T_,T_,T_,T_,T_,F_,F_,F_,F_,F_,F_,F_] rfl rfl (any_of HT_.out (by kernel_rfl)) (fun _ _ _ h => h) (Or.inl ⟨by rfl, ?_⟩) ?_ ?_
         rotate_left; ·intro w'; go_simp; with_reducible rfl
         rotate_left; ·simp only [Act.put, sA_,sZ_,sS_, i64_w, i32_w]; rfl
         refine pure_ (i := 19) (N := some 93) (v := ?_) (a' := ?_) #[T_,T_,T_,T_,T_,T_,T_,T_,T_,T_,T_,T_,T_,T_,T_,T_,T_,T_,T_,T_,F_,F_,F_,F_,F_,F_] rfl rfl (any_of HT_.out (by kernel_rfl)) (fun _ _ _ h => h) (Or.inl ⟨by rfl, ?_⟩) ?_ ?_
         rotate_left; ·intro w'; go_simp; with_reducible rfl
         rotate_left; ·simp only [Act.put, sA_,sZ_,sS_, i64_w, i32_w]; rfl
         refine take_ (i := 20) (N := some 94) (v := ?_) (a' := ?_) #[T_,T_,T_,T_,T_,T_,T_,T_,T_,T_,T_,T_,T_,T_,T_,T_,T_,T_,T_,T_,T_,F_,F_,F_,F_,F_] rfl rfl (take_ofW HT_.out HW_.out (by kernel_rfl)) (fun _ _ _ h => h) (Or.inl ⟨by rfl, ?_⟩) hHeld ?_ ?_
         rotate_left
         ·rintro w' ⟨s0, s1, s2, s3, s4, s5⟩
          go_simp
          with_reducible rfl
         rotate_left; ·simp only [Act.put, sA_,sZ_,sS_, i64_w, i32_w]; rfl
         refine take_ (i := 22) (N := some 96) (v := ?_) (a' := ?_) #[T_,T_,T_,T_,T_,T_,T_,T_,T_,T_,T_,T_,T_,T_,T_,T_,T_,T_,T_,T_,T_,F_,T_,F_,F_,F_] rfl rfl (take_ofW HT_.out HW_.out (by kernel_rfl)) (fun _ _ _ h => h) (Or.inl ⟨by rfl, ?_⟩) hHeld ?_ ?_
         rotate_left
         ·rintro w' ⟨s0, s1, s2, s3, s4, s5⟩
          go_simp
          with_reducible rfl
         rotate_left; ·simp only [Act.put, sA_,sZ_,sS_, i64_w, i32_w]; rfl
         refine one_ (i := 21) (N := some 95) #[T_,T_,T_,T_,T_,T_,T_,T_,T_,T_,T_,T_,T_,T_,T_,T_,T_,T_,T_,T_,T_,T_,T_,F_,F_,F_] rfl rfl (one_of HT_.out (by kernel_rfl)) (by decide) (fun K hK => ?_)
         refine goes_ Try.func16 (by kernel_rfl) rfl #[.agg #[.slice A0_0 l0_0.length c0_0, .slice A0_1 l0_1.length c0_1]] (by rfl) rfl rfl (by (try simp only [List.map_toArray, List.map_cons, List.map_nil]); first | done | rfl) ?_
         with_reducible refine (disk_May.calls kj3 _ _ l0_0 _ _ l0_1 t294 _ ?side1 ?side2 ?side3 ?side4 A61.out).mono ?_
         (case side1 => repeat (first | exact (Kd.C_below HR0_0.out HB.out) | (with_reducible refine Kd.C_alloc ?_ _) | (with_reducible refine Kd.C_drewN ?_ _) | (with_reducible refine Kd.C_drew ?_)))
         (case side2 => exact HC0_0.out)
         (case side3 => repeat (first | exact (Kd.C_below HR0_1.out HB.out) | (with_reducible refine Kd.C_alloc ?_ _) | (with_reducible refine Kd.C_drewN ?_ _) | (with_reducible refine Kd.C_drew ?_)))
         (case side4 => exact HC0_1.out)
         rintro e w65 ⟨rfl, hb⟩
         refine ⟨_, rfl, ?_⟩
         have hz_ := zq HB (by repeat (first | (with_reducible first | exact Below.refl _ _ | apply yA_ | apply yN_ | apply yD_) | exact Below.refl _ _)) hb
         replace hb := below_step hz_ hb
         replace HO275 := zV HO275 hb
         replace HO278 := zV HO278 hb
         replace HO283 := zV HO283 hb
         replace HO286 := zV HO286 hb
         replace BK269 := zB BK269 hb
         replace BK270 := zB BK270 hb
         replace BK280 := zB BK280 hb
         replace BK288 := zB BK288 hb
         replace HB := zH HB hb
         clear hz_
         (try clear hb)
         (try clear hb2)
         (try clear hk)
         (try clear hi)
         refine hK.out _ _ ⟨(xC_ BK280.out 0).trans rfl, (xC_ BK280.out 1).trans rfl, (xC_ BK288.out 0).trans rfl, (xC_ BK288.out 1).trans rfl, (xC_ BK269.out 0).trans rfl, (xC_ BK269.out 1).trans rfl⟩ (fun hHeld => ?_)
         clear hK K
         refine norm_ (a' := ?_) ?_ ?_
         rotate_left
         ·show Act.put _ (some 95) _ = _
          simp only [Act.put, sA_,sZ_,sS_, i64_w, i32_w]
          rfl
         refine one_ (i := 23) (N := some 97) #[T_,T_,T_,T_,T_,T_,T_,T_,T_,T_,T_,T_,T_,T_,T_,T_,T_,T_,T_,T_,T_,T_,T_,T_,F_,F_] rfl rfl (one_of HT_.out (by kernel_rfl)) (by decide) (fun K hK => ?_)
         refine goes_ Try.func17 (by kernel_rfl) rfl #[.agg #[.slice A0_0 l0_0.length c0_0, .slice A0_1 l0_1.length c0_1]] (by rfl) rfl rfl (by (try simp only [List.map_toArray, List.map_cons, List.map_nil]); first | done | rfl) ?_
         with_reducible refine (armadaref01_May.calls kj3 _ _ l0_0 _ _ l0_1 t295 _ ?side1 ?side2 ?side3 ?side4 A62.out).mono ?_
         (case side1 => repeat (first | exact (Kd.C_below HR0_0.out HB.out) | (with_reducible refine Kd.C_alloc ?_ _) | (with_reducible refine Kd.C_drewN ?_ _) | (with_reducible refine Kd.C_drew ?_)))
         (case side2 => exact HC0_0.out)
         (case side3 => repeat (first | exact (Kd.C_below HR0_1.out HB.out) | (with_reducible refine Kd.C_alloc ?_ _) | (with_reducible refine Kd.C_drewN ?_ _) | (with_reducible refine Kd.C_drew ?_)))
         (case side4 => exact HC0_1.out)
         rintro e w66 ⟨rfl, hb⟩
         refine ⟨_, rfl, ?_⟩
         have hz_ := zq HB (by repeat (first | (with_reducible first | exact Below.refl _ _ | apply yA_ | apply yN_ | apply yD_) | exact Below.refl _ _)) hb
         replace hb := below_step hz_ hb
         replace HO275 := zV HO275 hb
         replace HO278 := zV HO278 hb
         replace HO283 := zV HO283 hb
         replace HO286 := zV HO286 hb
         replace BK269 := zB BK269 hb
         replace BK270 := zB BK270 hb
         replace BK280 := zB BK280 hb
         replace BK288 := zB BK288 hb
         replace HB := zH HB hb
         clear hz_
         (try clear hb)
         (try clear hb2)
         (try clear hk)
         (try clear hi)
         refine hK.out _ _ ⟨(xC_ BK280.out 0).trans rfl, (xC_ BK280.out 1).trans rfl, (xC_ BK288.out 0).trans rfl, (xC_ BK288.out 1).trans rfl, (xC_ BK269.out 0).trans rfl, (xC_ BK269.out 1).trans rfl⟩ (fun hHeld => ?_)
         clear hK K
         refine norm_ (a' := ?_) ?_ ?_
         rotate_left
         ·show Act.put _ (some 97) _ = _
          simp only [Act.put, sA_,sZ_,sS_, i64_w, i32_w]
          rfl
         refine pure_ (i := 24) (N := some 98) (v := ?_) (a' := ?_) #[T_,T_,T_,T_,T_,T_,T_,T_,T_,T_,T_,T_,T_,T_,T_,T_,T_,T_,T_,T_,T_,T_,T_,T_,T_,F_] rfl rfl (any_of HT_.out (by kernel_rfl)) (fun _ _ _ h => h) (Or.inl ⟨by rfl, ?_⟩) ?_ ?_
         rotate_left; ·intro w'; go_simp; with_reducible rfl
         rotate_left; ·simp only [Act.put, sA_,sZ_,sS_, i64_w, i32_w]; rfl
         refine pure_ (i := 25) (N := some 99) (v := ?_) (a' := ?_) #[T_,T_,T_,T_,T_,T_,T_,T_,T_,T_,T_,T_,T_,T_,T_,T_,T_,T_,T_,T_,T_,T_,T_,T_,T_,T_] rfl rfl (any_of HT_.out (by kernel_rfl)) (fun _ _ _ h => h) (Or.inl ⟨by rfl, ?_⟩) ?_ ?_
         rotate_left; ·intro w'; go_simp; with_reducible rfl
         rotate_left; ·simp only [Act.put, sA_,sZ_,sS_, i64_w, i32_w]; rfl
         refine done_ (done_of HT_.out (by kernel_rfl)) ?_
         try go_wp2
         go_meet
         case rel => exact ⟨_, ((t294 != t295)), (by first | rfl | (simp; done) | (simp [*]; done)), H', ⟨by have := HJ3.out; first | omega | exact Nat.le_refl _⟩, ⟨by (with_reducible repeat (first | apply vA_ | apply vN_ | apply vD_)); exact hV_ HO275.out (fun _ hk => ⟨hk.1.1, ⟨hk.1.2.1, ⟨hk.1.2.2, hk.2⟩⟩⟩)⟩, ⟨by (with_reducible repeat (first | apply vA_ | apply vN_ | apply vD_)); exact hV_ HO278.out (fun _ hk => ⟨hk.1.1, ⟨hk.1.2.1, ⟨hk.1.2.2, hk.2⟩⟩⟩)⟩, ⟨by (with_reducible repeat (first | apply vA_ | apply vN_ | apply vD_)); exact hV_ HO283.out (fun _ hk => ⟨hk.1.1, ⟨hk.1.2.1, ⟨hk.1.2.2, hk.2⟩⟩⟩)⟩, ⟨by (with_reducible repeat (first | apply vA_ | apply vN_ | apply vD_)); exact hV_ HO286.out (fun _ hk => ⟨hk.1.1, ⟨hk.1.2.1, ⟨hk.1.2.2, hk.2⟩⟩⟩)⟩, ⟨by (with_reducible repeat (first | apply xN_ | apply xD_ | apply xA_)); exact BK269.out⟩, ⟨by (with_reducible repeat (first | apply xN_ | apply xD_ | apply xA_)); exact BK270.out⟩, ⟨by (with_reducible repeat (first | apply xN_ | apply xD_ | apply xA_)); exact BK280.out⟩, ⟨by (with_reducible repeat (first | apply xN_ | apply xD_ | apply xA_)); exact BK288.out⟩, ⟨by repeat (first | (with_reducible first | exact HB.out | apply yA_ | apply yN_ | apply yD_ | refine yS_ ?_ GE269.out | refine yS_ ?_ GE270.out | refine yS_ ?_ GE280.out | refine yS_ ?_ GE288.out) | exact HB.out)⟩⟩
        ·rw [if_neg c60] at H
         have c60b0 : (t290 == t292) = false := beq_eq_false_iff_ne.mpr c60
         have c60b1 : (t290 != t292) = true := bne_iff_ne.mpr c60
         have H' := aM_ H
         clear H
         try go_wp2
         replace HO275 := aM_ (vD_ HO275.out)
         replace HO278 := aM_ (vD_ HO278.out)
         replace HO283 := aM_ (vD_ HO283.out)
         replace HO286 := aM_ (vD_ HO286.out)
         replace BK269 := aM_ (xD_ BK269.out)
         replace BK270 := aM_ (xD_ BK270.out)
         replace BK280 := aM_ (xD_ BK280.out)
         replace BK288 := aM_ (xD_ BK288.out)
         replace HB := aM_ (yD_ HB.out)
         refine start_ (n := 26) (S := fun w' => w'.cell? ⟨gb280, 0, none⟩ = some (.slice Ao34 t273.length co34) ∧ w'.cell? ⟨gb280, 1, none⟩ = some (.slice Ao38 t276.length co38) ∧ w'.cell? ⟨gb288, 0, none⟩ = some (.slice Ao44 t281.length co44) ∧ w'.cell? ⟨gb288, 1, none⟩ = some (.slice Ao49 t284.length co49)) (ds := []) #[F_,F_,F_,F_,F_,F_,F_,F_,F_,F_,F_,F_,F_,F_,F_,F_,F_,F_,F_,F_,F_,F_,F_,F_,F_,F_] (by kernel_rfl) rfl rfl ⟨(xC_ BK280.out 0).trans rfl, (xC_ BK280.out 1).trans rfl, (xC_ BK288.out 0).trans rfl, (xC_ BK288.out 1).trans rfl⟩ (fun hHeld => ?_); refine with_tabW armadalaw01_DiskTells.tab7 armadalaw01_DiskTells.bits7 (fun HT_ HW_ => ?_)
         generalize w55.drew = w67 at HO275 HO278 HO283 HO286 BK269 BK270 BK280 BK288 HB hHeld ⊢
         refine take_ (i := 0) (N := some 74) (v := ?_) (a' := ?_) #[T_,F_,F_,F_,F_,F_,F_,F_,F_,F_,F_,F_,F_,F_,F_,F_,F_,F_,F_,F_,F_,F_,F_,F_,F_,F_] rfl rfl (take_ofW HT_.out HW_.out (by kernel_rfl)) (fun _ _ _ h => h) (Or.inl ⟨by rfl, ?_⟩) hHeld ?_ ?_
         rotate_left
         ·rintro w' ⟨s0, s1, s2, s3⟩
          go_simp
          with_reducible rfl
         rotate_left; ·simp only [Act.put, sA_,sZ_,sS_, i64_w, i32_w]; rfl
         refine take_ (i := 1) (N := some 75) (v := ?_) (a' := ?_) #[T_,T_,F_,F_,F_,F_,F_,F_,F_,F_,F_,F_,F_,F_,F_,F_,F_,F_,F_,F_,F_,F_,F_,F_,F_,F_] rfl rfl (take_ofW HT_.out HW_.out (by kernel_rfl)) (fun _ _ _ h => h) (Or.inl ⟨by rfl, ?_⟩) hHeld ?_ ?_
         rotate_left
         ·rintro w' ⟨s0, s1, s2, s3⟩
          go_simp
          with_reducible rfl
         rotate_left; ·simp only [Act.put, sA_,sZ_,sS_, i64_w, i32_w]; rfl
         refine one_ (i := 2) (N := some 76) #[T_,T_,T_,F_,F_,F_,F_,F_,F_,F_,F_,F_,F_,F_,F_,F_,F_,F_,F_,F_,F_,F_,F_,F_,F_,F_] rfl rfl (one_of HT_.out (by kernel_rfl)) (by decide) (fun K hK => ?_)
         refine goes_ Try.func15 (by kernel_rfl) rfl #[.agg #[.slice Ao34 t273.length co34, .slice Ao38 t276.length co38], .agg #[.slice Ao44 t281.length co44, .slice Ao49 t284.length co49]] (by rfl) rfl rfl (by (try simp only [List.map_toArray, List.map_cons, List.map_nil]); first | done | rfl) ?_
         with_reducible refine (armadaref01_Same.calls kj3 _ _ t273 _ _ t276 _ _ t281 _ _ t284 true _ ?side1 ?side2 ?side3 ?side4 ?side5 ?side6 ?side7 ?side8 A56.out).mono ?_
         (case side1 => repeat (first | exact (Kd.V_reads' HO275.out).2.2 | (with_reducible refine Kd.C_alloc ?_ _) | (with_reducible refine Kd.C_drewN ?_ _) | (with_reducible refine Kd.C_drew ?_)))
         (case side2 => exact (Kd.V_reads' HO275.out).2.1)
         (case side3 => repeat (first | exact (Kd.V_reads' HO278.out).2.2 | (with_reducible refine Kd.C_alloc ?_ _) | (with_reducible refine Kd.C_drewN ?_ _) | (with_reducible refine Kd.C_drew ?_)))
         (case side4 => exact (Kd.V_reads' HO278.out).2.1)
         (case side5 => repeat (first | exact (Kd.V_reads' HO283.out).2.2 | (with_reducible refine Kd.C_alloc ?_ _) | (with_reducible refine Kd.C_drewN ?_ _) | (with_reducible refine Kd.C_drew ?_)))
         (case side6 => exact (Kd.V_reads' HO283.out).2.1)
         (case side7 => repeat (first | exact (Kd.V_reads' HO286.out).2.2 | (with_reducible refine Kd.C_alloc ?_ _) | (with_reducible refine Kd.C_drewN ?_ _) | (with_reducible refine Kd.C_drew ?_)))
         (case side8 => exact (Kd.V_reads' HO286.out).2.1)
         rintro e w68 ⟨rfl, hb⟩
         refine ⟨_, rfl, ?_⟩
         have hz_ := zq HB (by repeat (first | (with_reducible first | exact Below.refl _ _ | apply yA_ | apply yN_ | apply yD_) | exact Below.refl _ _)) hb
         replace hb := below_step hz_ hb
         replace HO275 := zV HO275 hb
         replace HO278 := zV HO278 hb
         replace HO283 := zV HO283 hb
         replace HO286 := zV HO286 hb
         replace BK269 := zB BK269 hb
         replace BK270 := zB BK270 hb
         replace BK280 := zB BK280 hb
         replace BK288 := zB BK288 hb
         replace HB := zH HB hb
         clear hz_
         (try clear hb)
         (try clear hb2)
         (try clear hk)
         (try clear hi)
         refine hK.out _ _ ⟨(xC_ BK280.out 0).trans rfl, (xC_ BK280.out 1).trans rfl, (xC_ BK288.out 0).trans rfl, (xC_ BK288.out 1).trans rfl⟩ (fun hHeld => ?_)
         clear hK K
         refine norm_ (a' := ?_) ?_ ?_
         rotate_left
         ·show Act.put _ (some 76) _ = _
          simp only [Act.put, sA_,sZ_,sS_, i64_w, i32_w]
          rfl
         refine pure_ (i := 3) (N := some 77) (v := ?_) (a' := ?_) #[T_,T_,T_,T_,F_,F_,F_,F_,F_,F_,F_,F_,F_,F_,F_,F_,F_,F_,F_,F_,F_,F_,F_,F_,F_,F_] rfl rfl (any_of HT_.out (by kernel_rfl)) (fun _ _ _ h => h) (Or.inl ⟨by rfl, ?_⟩) ?_ ?_
         rotate_left; ·intro w'; go_simp; with_reducible rfl
         rotate_left; ·simp only [Act.put, sA_,sZ_,sS_, i64_w, i32_w]; rfl
         refine pure_ (i := 4) (N := some 78) (v := ?_) (a' := ?_) #[T_,T_,T_,T_,T_,F_,F_,F_,F_,F_,F_,F_,F_,F_,F_,F_,F_,F_,F_,F_,F_,F_,F_,F_,F_,F_] rfl rfl (any_of HT_.out (by kernel_rfl)) (fun _ _ _ h => h) (Or.inl ⟨by rfl, ?_⟩) ?_ ?_
         rotate_left; ·intro w'; go_simp; with_reducible rfl
         rotate_left; ·simp only [Act.put, sA_,sZ_,sS_, i64_w, i32_w]; rfl
         refine pure_ (i := 5) (N := some 79) (v := ?_) (a' := ?_) #[T_,T_,T_,T_,T_,T_,F_,F_,F_,F_,F_,F_,F_,F_,F_,F_,F_,F_,F_,F_,F_,F_,F_,F_,F_,F_] rfl rfl (any_of HT_.out (by kernel_rfl)) (fun _ _ _ h => h) (Or.inl ⟨by rfl, ?_⟩) ?_ ?_
         rotate_left; ·intro w'; go_simp; with_reducible rfl
         rotate_left; ·simp only [Act.put, sA_,sZ_,sS_, i64_w, i32_w]; rfl
         refine pure_ (i := 6) (N := some 80) (v := ?_) (a' := ?_) #[T_,T_,T_,T_,T_,T_,T_,F_,F_,F_,F_,F_,F_,F_,F_,F_,F_,F_,F_,F_,F_,F_,F_,F_,F_,F_] rfl rfl (any_of HT_.out (by kernel_rfl)) (fun _ _ _ h => h) (Or.inl ⟨by rfl, ?_⟩) ?_ ?_
         rotate_left; ·intro w'; go_simp; with_reducible rfl
         rotate_left; ·simp only [Act.put, sA_,sZ_,sS_, i64_w, i32_w]; rfl
         refine pure_ (i := 7) (N := some 81) (v := ?_) (a' := ?_) #[T_,T_,T_,T_,T_,T_,T_,T_,F_,F_,F_,F_,F_,F_,F_,F_,F_,F_,F_,F_,F_,F_,F_,F_,F_,F_] rfl rfl (any_of HT_.out (by kernel_rfl)) (fun _ _ _ h => h) (Or.inl ⟨by rfl, ?_⟩) ?_ ?_
         rotate_left; ·intro w'; go_simp; with_reducible rfl
         rotate_left; ·simp only [Act.put, sA_,sZ_,sS_, i64_w, i32_w]; rfl
         refine pure_ (i := 8) (N := some 82) (v := ?_) (a' := ?_) #[T_,T_,T_,T_,T_,T_,T_,T_,T_,F_,F_,F_,F_,F_,F_,F_,F_,F_,F_,F_,F_,F_,F_,F_,F_,F_] rfl rfl (any_of HT_.out (by kernel_rfl)) (fun _ _ _ h => h) (Or.inl ⟨by rfl, ?_⟩) ?_ ?_
         rotate_left; ·intro w'; go_simp; with_reducible rfl
         rotate_left; ·simp only [Act.put, sA_,sZ_,sS_, i64_w, i32_w]; rfl
         refine pure_ (i := 9) (N := some 83) (v := ?_) (a' := ?_) #[T_,T_,T_,T_,T_,T_,T_,T_,T_,T_,F_,F_,F_,F_,F_,F_,F_,F_,F_,F_,F_,F_,F_,F_,F_,F_] rfl rfl (any_of HT_.out (by kernel_rfl)) (fun _ _ _ h => h) (Or.inl ⟨by rfl, ?_⟩) ?_ ?_
         rotate_left; ·intro w'; go_simp; with_reducible rfl
         rotate_left; ·simp only [Act.put, sA_,sZ_,sS_, i64_w, i32_w]; rfl
         refine pure_ (i := 10) (N := some 84) (v := ?_) (a' := ?_) #[T_,T_,T_,T_,T_,T_,T_,T_,T_,T_,T_,F_,F_,F_,F_,F_,F_,F_,F_,F_,F_,F_,F_,F_,F_,F_] rfl rfl (any_of HT_.out (by kernel_rfl)) (fun _ _ _ h => h) (Or.inl ⟨by rfl, ?_⟩) ?_ ?_
         rotate_left; ·intro w'; go_simp; with_reducible rfl
         rotate_left; ·simp only [Act.put, sA_,sZ_,sS_, i64_w, i32_w]; rfl
         refine pure_ (i := 11) (N := some 85) (v := ?_) (a' := ?_) #[T_,T_,T_,T_,T_,T_,T_,T_,T_,T_,T_,T_,F_,F_,F_,F_,F_,F_,F_,F_,F_,F_,F_,F_,F_,F_] rfl rfl (any_of HT_.out (by kernel_rfl)) (fun _ _ _ h => h) (Or.inl ⟨by rfl, ?_⟩) ?_ ?_
         rotate_left; ·intro w'; go_simp; with_reducible rfl
         rotate_left; ·simp only [Act.put, sA_,sZ_,sS_, i64_w, i32_w]; rfl
         refine pure_ (i := 12) (N := some 86) (v := ?_) (a' := ?_) #[T_,T_,T_,T_,T_,T_,T_,T_,T_,T_,T_,T_,T_,F_,F_,F_,F_,F_,F_,F_,F_,F_,F_,F_,F_,F_] rfl rfl (any_of HT_.out (by kernel_rfl)) (fun _ _ _ h => h) (Or.inl ⟨by rfl, ?_⟩) ?_ ?_
         rotate_left; ·intro w'; go_simp; with_reducible rfl
         rotate_left; ·simp only [Act.put, sA_,sZ_,sS_, i64_w, i32_w]; rfl
         refine pure_ (i := 13) (N := some 87) (v := ?_) (a' := ?_) #[T_,T_,T_,T_,T_,T_,T_,T_,T_,T_,T_,T_,T_,T_,F_,F_,F_,F_,F_,F_,F_,F_,F_,F_,F_,F_] rfl rfl (any_of HT_.out (by kernel_rfl)) (fun _ _ _ h => h) (Or.inl ⟨by rfl, ?_⟩) ?_ ?_
         rotate_left; ·intro w'; go_simp; with_reducible rfl
         rotate_left; ·simp only [Act.put, sA_,sZ_,sS_, i64_w, i32_w]; rfl
         refine pure_ (i := 14) (N := some 88) (v := ?_) (a' := ?_) #[T_,T_,T_,T_,T_,T_,T_,T_,T_,T_,T_,T_,T_,T_,T_,F_,F_,F_,F_,F_,F_,F_,F_,F_,F_,F_] rfl rfl (any_of HT_.out (by kernel_rfl)) (fun _ _ _ h => h) (Or.inl ⟨by rfl, ?_⟩) ?_ ?_
         rotate_left; ·intro w'; go_simp; with_reducible rfl
         rotate_left; ·simp only [Act.put, sA_,sZ_,sS_, i64_w, i32_w]; rfl
         refine pure_ (i := 15) (N := some 89) (v := ?_) (a' := ?_) #[T_,T_,T_,T_,T_,T_,T_,T_,T_,T_,T_,T_,T_,T_,T_,T_,F_,F_,F_,F_,F_,F_,F_,F_,F_,F_] rfl rfl (any_of HT_.out (by kernel_rfl)) (fun _ _ _ h => h) (Or.inl ⟨by rfl, ?_⟩) ?_ ?_
         rotate_left; ·intro w'; go_simp; with_reducible rfl
         rotate_left; ·simp only [Act.put, sA_,sZ_,sS_, i64_w, i32_w]; rfl
         refine pure_ (i := 16) (N := some 90) (v := ?_) (a' := ?_) #[T_,T_,T_,T_,T_,T_,T_,T_,T_,T_,T_,T_,T_,T_,T_,T_,T_,F_,F_,F_,F_,F_,F_,F_,F_,F_] rfl rfl (any_of HT_.out (by kernel_rfl)) (fun _ _ _ h => h) (Or.inl ⟨by rfl, ?_⟩) ?_ ?_
         rotate_left; ·intro w'; go_simp; with_reducible rfl
         rotate_left; ·simp only [Act.put, sA_,sZ_,sS_, i64_w, i32_w]; rfl
         refine pure_ (i := 17) (N := some 91) (v := ?_) (a' := ?_) #[T_,T_,T_,T_,T_,T_,T_,T_,T_,T_,T_,T_,T_,T_,T_,T_,T_,T_,F_,F_,F_,F_,F_,F_,F_,F_] rfl rfl (any_of HT_.out (by kernel_rfl)) (fun _ _ _ h => h) (Or.inl ⟨by rfl, ?_⟩) ?_ ?_
         rotate_left; ·intro w'; go_simp; with_reducible rfl
         rotate_left; ·simp only [Act.put, sA_,sZ_,sS_, i64_w, i32_w]; rfl
         refine pure_ (i := 18) (N := some 92) (v := ?_) (a' := ?_) #[T_,T_,T_,T_,T_,T_,T_,T_,T_,T_,T_,T_,T_,T_,T_,T_,T_,T_,T_,F_,F_,F_,F_,F_,F_,F_] rfl rfl (any_of HT_.out (by kernel_rfl)) (fun _ _ _ h => h) (Or.inl ⟨by rfl, ?_⟩) ?_ ?_
         rotate_left; ·intro w'; go_simp; with_reducible rfl
         rotate_left; ·simp only [Act.put, sA_,sZ_,sS_, i64_w, i32_w]; rfl
         refine pure_ (i := 19) (N := some 93) (v := ?_) (a' := ?_) #[T_,T_,T_,T_,T_,T_,T_,T_,T_,T_,T_,T_,T_,T_,T_,T_,T_,T_,T_,T_,F_,F_,F_,F_,F_,F_] rfl rfl (any_of HT_.out (by kernel_rfl)) (fun _ _ _ h => h) (Or.inl ⟨by rfl, ?_⟩) ?_ ?_
         rotate_left; ·intro w'; go_simp; with_reducible rfl
         rotate_left; ·simp only [Act.put, sA_,sZ_,sS_, i64_w, i32_w]; rfl
         refine pure_ (i := 20) (N := some 94) (v := undef) (a' := ?_) #[T_,T_,T_,T_,T_,T_,T_,T_,T_,T_,T_,T_,T_,T_,T_,T_,T_,T_,T_,T_,T_,F_,F_,F_,F_,F_] rfl rfl (any_of HT_.out (by kernel_rfl)) (fun _ _ _ h => h) (Or.inr ⟨by rfl, rfl⟩) ?_ ?_
         rotate_left; ·simp only [Act.put, sA_,sZ_,sS_, i64_w, i32_w]; rfl
         refine pure_ (i := 21) (N := some 95) (v := undef) (a' := ?_) #[T_,T_,T_,T_,T_,T_,T_,T_,T_,T_,T_,T_,T_,T_,T_,T_,T_,T_,T_,T_,T_,T_,F_,F_,F_,F_] rfl rfl (any_of HT_.out (by kernel_rfl)) (fun _ _ _ h => h) (Or.inr ⟨by rfl, rfl⟩) ?_ ?_
         rotate_left; ·simp only [Act.put, sA_,sZ_,sS_, i64_w, i32_w]; rfl
         refine pure_ (i := 22) (N := some 96) (v := undef) (a' := ?_) #[T_,T_,T_,T_,T_,T_,T_,T_,T_,T_,T_,T_,T_,T_,T_,T_,T_,T_,T_,T_,T_,T_,T_,F_,F_,F_] rfl rfl (any_of HT_.out (by kernel_rfl)) (fun _ _ _ h => h) (Or.inr ⟨by rfl, rfl⟩) ?_ ?_
         rotate_left; ·simp only [Act.put, sA_,sZ_,sS_, i64_w, i32_w]; rfl
         refine pure_ (i := 23) (N := some 97) (v := undef) (a' := ?_) #[T_,T_,T_,T_,T_,T_,T_,T_,T_,T_,T_,T_,T_,T_,T_,T_,T_,T_,T_,T_,T_,T_,T_,T_,F_,F_] rfl rfl (any_of HT_.out (by kernel_rfl)) (fun _ _ _ h => h) (Or.inr ⟨by rfl, rfl⟩) ?_ ?_
         rotate_left; ·simp only [Act.put, sA_,sZ_,sS_, i64_w, i32_w]; rfl
         refine pure_ (i := 24) (N := some 98) (v := undef) (a' := ?_) #[T_,T_,T_,T_,T_,T_,T_,T_,T_,T_,T_,T_,T_,T_,T_,T_,T_,T_,T_,T_,T_,T_,T_,T_,T_,F_] rfl rfl (any_of HT_.out (by kernel_rfl)) (fun _ _ _ h => h) (Or.inr ⟨by rfl, rfl⟩) ?_ ?_
         rotate_left; ·simp only [Act.put, sA_,sZ_,sS_, i64_w, i32_w]; rfl
         refine pure_ (i := 25) (N := some 99) (v := ?_) (a' := ?_) #[T_,T_,T_,T_,T_,T_,T_,T_,T_,T_,T_,T_,T_,T_,T_,T_,T_,T_,T_,T_,T_,T_,T_,T_,T_,T_] rfl rfl (any_of HT_.out (by kernel_rfl)) (fun _ _ _ h => h) (Or.inl ⟨by rfl, ?_⟩) ?_ ?_
         rotate_left; ·intro w'; go_simp; with_reducible rfl
         rotate_left; ·simp only [Act.put, sA_,sZ_,sS_, i64_w, i32_w]; rfl
         refine done_ (done_of HT_.out (by kernel_rfl)) ?_
         try go_wp2
         go_meet
         case rel => exact ⟨_, (true), (by first | rfl | (simp; done) | (simp [*]; done)), H', ⟨by have := HJ3.out; first | omega | exact Nat.le_refl _⟩, ⟨by (with_reducible repeat (first | apply vA_ | apply vN_ | apply vD_)); exact hV_ HO275.out (fun _ hk => ⟨hk.1.1, ⟨hk.1.2.1, ⟨hk.1.2.2, hk.2⟩⟩⟩)⟩, ⟨by (with_reducible repeat (first | apply vA_ | apply vN_ | apply vD_)); exact hV_ HO278.out (fun _ hk => ⟨hk.1.1, ⟨hk.1.2.1, ⟨hk.1.2.2, hk.2⟩⟩⟩)⟩, ⟨by (with_reducible repeat (first | apply vA_ | apply vN_ | apply vD_)); exact hV_ HO283.out (fun _ hk => ⟨hk.1.1, ⟨hk.1.2.1, ⟨hk.1.2.2, hk.2⟩⟩⟩)⟩, ⟨by (with_reducible repeat (first | apply vA_ | apply vN_ | apply vD_)); exact hV_ HO286.out (fun _ hk => ⟨hk.1.1, ⟨hk.1.2.1, ⟨hk.1.2.2, hk.2⟩⟩⟩)⟩, ⟨by (with_reducible repeat (first | apply xN_ | apply xD_ | apply xA_)); exact BK269.out⟩, ⟨by (with_reducible repeat (first | apply xN_ | apply xD_ | apply xA_)); exact BK270.out⟩, ⟨by (with_reducible repeat (first | apply xN_ | apply xD_ | apply xA_)); exact BK280.out⟩, ⟨by (with_reducible repeat (first | apply xN_ | apply xD_ | apply xA_)); exact BK288.out⟩, ⟨by repeat (first | (with_reducible first | exact HB.out | apply yA_ | apply yN_ | apply yD_ | refine yS_ ?_ GE269.out | refine yS_ ?_ GE270.out | refine yS_ ?_ GE280.out | refine yS_ ?_ GE288.out) | exact HB.out)⟩⟩
       ·rw [if_neg c59] at H
        have c59b0 : (t289.toList == t291.toList) = false := beq_eq_false_iff_ne.mpr c59
        have c59b1 : (t289.toList != t291.toList) = true := bne_iff_ne.mpr c59
        have H' := aM_ H
        clear H
        try go_wp2
        replace HO275 := aM_ (vD_ HO275.out)
        replace HO278 := aM_ (vD_ HO278.out)
        replace HO283 := aM_ (vD_ HO283.out)
        replace HO286 := aM_ (vD_ HO286.out)
        replace BK269 := aM_ (xD_ BK269.out)
        replace BK270 := aM_ (xD_ BK270.out)
        replace BK280 := aM_ (xD_ BK280.out)
        replace BK288 := aM_ (xD_ BK288.out)
        replace HB := aM_ (yD_ HB.out)
        refine start_ (n := 26) (S := fun w' => w'.cell? ⟨gb280, 0, none⟩ = some (.slice Ao34 t273.length co34) ∧ w'.cell? ⟨gb280, 1, none⟩ = some (.slice Ao38 t276.length co38) ∧ w'.cell? ⟨gb288, 0, none⟩ = some (.slice Ao44 t281.length co44) ∧ w'.cell? ⟨gb288, 1, none⟩ = some (.slice Ao49 t284.length co49)) (ds := []) #[F_,F_,F_,F_,F_,F_,F_,F_,F_,F_,F_,F_,F_,F_,F_,F_,F_,F_,F_,F_,F_,F_,F_,F_,F_,F_] (by kernel_rfl) rfl rfl ⟨(xC_ BK280.out 0).trans rfl, (xC_ BK280.out 1).trans rfl, (xC_ BK288.out 0).trans rfl, (xC_ BK288.out 1).trans rfl⟩ (fun hHeld => ?_); refine with_tabW armadalaw01_DiskTells.tab7 armadalaw01_DiskTells.bits7 (fun HT_ HW_ => ?_)
        generalize w55.drew = w69 at HO275 HO278 HO283 HO286 BK269 BK270 BK280 BK288 HB hHeld ⊢
        refine take_ (i := 0) (N := some 74) (v := ?_) (a' := ?_) #[T_,F_,F_,F_,F_,F_,F_,F_,F_,F_,F_,F_,F_,F_,F_,F_,F_,F_,F_,F_,F_,F_,F_,F_,F_,F_] rfl rfl (take_ofW HT_.out HW_.out (by kernel_rfl)) (fun _ _ _ h => h) (Or.inl ⟨by rfl, ?_⟩) hHeld ?_ ?_
        rotate_left
        ·rintro w' ⟨s0, s1, s2, s3⟩
         go_simp
         with_reducible rfl
        rotate_left; ·simp only [Act.put, sA_,sZ_,sS_, i64_w, i32_w]; rfl
        refine take_ (i := 1) (N := some 75) (v := ?_) (a' := ?_) #[T_,T_,F_,F_,F_,F_,F_,F_,F_,F_,F_,F_,F_,F_,F_,F_,F_,F_,F_,F_,F_,F_,F_,F_,F_,F_] rfl rfl (take_ofW HT_.out HW_.out (by kernel_rfl)) (fun _ _ _ h => h) (Or.inl ⟨by rfl, ?_⟩) hHeld ?_ ?_
        rotate_left
        ·rintro w' ⟨s0, s1, s2, s3⟩
         go_simp
         with_reducible rfl
        rotate_left; ·simp only [Act.put, sA_,sZ_,sS_, i64_w, i32_w]; rfl
        refine one_ (i := 2) (N := some 76) #[T_,T_,T_,F_,F_,F_,F_,F_,F_,F_,F_,F_,F_,F_,F_,F_,F_,F_,F_,F_,F_,F_,F_,F_,F_,F_] rfl rfl (one_of HT_.out (by kernel_rfl)) (by decide) (fun K hK => ?_)
        refine goes_ Try.func15 (by kernel_rfl) rfl #[.agg #[.slice Ao34 t273.length co34, .slice Ao38 t276.length co38], .agg #[.slice Ao44 t281.length co44, .slice Ao49 t284.length co49]] (by rfl) rfl rfl (by (try simp only [List.map_toArray, List.map_cons, List.map_nil]); first | done | rfl) ?_
        with_reducible refine (armadaref01_Same.calls kj3 _ _ t273 _ _ t276 _ _ t281 _ _ t284 true _ ?side1 ?side2 ?side3 ?side4 ?side5 ?side6 ?side7 ?side8 A56.out).mono ?_
        (case side1 => repeat (first | exact (Kd.V_reads' HO275.out).2.2 | (with_reducible refine Kd.C_alloc ?_ _) | (with_reducible refine Kd.C_drewN ?_ _) | (with_reducible refine Kd.C_drew ?_)))
        (case side2 => exact (Kd.V_reads' HO275.out).2.1)
        (case side3 => repeat (first | exact (Kd.V_reads' HO278.out).2.2 | (with_reducible refine Kd.C_alloc ?_ _) | (with_reducible refine Kd.C_drewN ?_ _) | (with_reducible refine Kd.C_drew ?_)))
        (case side4 => exact (Kd.V_reads' HO278.out).2.1)
        (case side5 => repeat (first | exact (Kd.V_reads' HO283.out).2.2 | (with_reducible refine Kd.C_alloc ?_ _) | (with_reducible refine Kd.C_drewN ?_ _) | (with_reducible refine Kd.C_drew ?_)))
        (case side6 => exact (Kd.V_reads' HO283.out).2.1)
        (case side7 => repeat (first | exact (Kd.V_reads' HO286.out).2.2 | (with_reducible refine Kd.C_alloc ?_ _) | (with_reducible refine Kd.C_drewN ?_ _) | (with_reducible refine Kd.C_drew ?_)))
        (case side8 => exact (Kd.V_reads' HO286.out).2.1)
        rintro e w70 ⟨rfl, hb⟩
        refine ⟨_, rfl, ?_⟩
        have hz_ := zq HB (by repeat (first | (with_reducible first | exact Below.refl _ _ | apply yA_ | apply yN_ | apply yD_) | exact Below.refl _ _)) hb
        replace hb := below_step hz_ hb
        replace HO275 := zV HO275 hb
        replace HO278 := zV HO278 hb
        replace HO283 := zV HO283 hb
        replace HO286 := zV HO286 hb
        replace BK269 := zB BK269 hb
        replace BK270 := zB BK270 hb
        replace BK280 := zB BK280 hb
        replace BK288 := zB BK288 hb
        replace HB := zH HB hb
        clear hz_
        (try clear hb)
        (try clear hb2)
        (try clear hk)
        (try clear hi)
        refine hK.out _ _ ⟨(xC_ BK280.out 0).trans rfl, (xC_ BK280.out 1).trans rfl, (xC_ BK288.out 0).trans rfl, (xC_ BK288.out 1).trans rfl⟩ (fun hHeld => ?_)
        clear hK K
        refine norm_ (a' := ?_) ?_ ?_
        rotate_left
        ·show Act.put _ (some 76) _ = _
         simp only [Act.put, sA_,sZ_,sS_, i64_w, i32_w]
         rfl
        refine pure_ (i := 3) (N := some 77) (v := ?_) (a' := ?_) #[T_,T_,T_,T_,F_,F_,F_,F_,F_,F_,F_,F_,F_,F_,F_,F_,F_,F_,F_,F_,F_,F_,F_,F_,F_,F_] rfl rfl (any_of HT_.out (by kernel_rfl)) (fun _ _ _ h => h) (Or.inl ⟨by rfl, ?_⟩) ?_ ?_
        rotate_left; ·intro w'; go_simp; with_reducible rfl
        rotate_left; ·simp only [Act.put, sA_,sZ_,sS_, i64_w, i32_w]; rfl
        refine pure_ (i := 4) (N := some 78) (v := ?_) (a' := ?_) #[T_,T_,T_,T_,T_,F_,F_,F_,F_,F_,F_,F_,F_,F_,F_,F_,F_,F_,F_,F_,F_,F_,F_,F_,F_,F_] rfl rfl (any_of HT_.out (by kernel_rfl)) (fun _ _ _ h => h) (Or.inl ⟨by rfl, ?_⟩) ?_ ?_
        rotate_left; ·intro w'; go_simp; with_reducible rfl
        rotate_left; ·simp only [Act.put, sA_,sZ_,sS_, i64_w, i32_w]; rfl
        refine pure_ (i := 5) (N := some 79) (v := ?_) (a' := ?_) #[T_,T_,T_,T_,T_,T_,F_,F_,F_,F_,F_,F_,F_,F_,F_,F_,F_,F_,F_,F_,F_,F_,F_,F_,F_,F_] rfl rfl (any_of HT_.out (by kernel_rfl)) (fun _ _ _ h => h) (Or.inl ⟨by rfl, ?_⟩) ?_ ?_
        rotate_left; ·intro w'; go_simp; with_reducible rfl
        rotate_left; ·simp only [Act.put, sA_,sZ_,sS_, i64_w, i32_w]; rfl
        refine pure_ (i := 6) (N := some 80) (v := ?_) (a' := ?_) #[T_,T_,T_,T_,T_,T_,T_,F_,F_,F_,F_,F_,F_,F_,F_,F_,F_,F_,F_,F_,F_,F_,F_,F_,F_,F_] rfl rfl (any_of HT_.out (by kernel_rfl)) (fun _ _ _ h => h) (Or.inl ⟨by rfl, ?_⟩) ?_ ?_
        rotate_left; ·intro w'; go_simp; with_reducible rfl
        rotate_left; ·simp only [Act.put, sA_,sZ_,sS_, i64_w, i32_w]; rfl
        refine pure_ (i := 7) (N := some 81) (v := ?_) (a' := ?_) #[T_,T_,T_,T_,T_,T_,T_,T_,F_,F_,F_,F_,F_,F_,F_,F_,F_,F_,F_,F_,F_,F_,F_,F_,F_,F_] rfl rfl (any_of HT_.out (by kernel_rfl)) (fun _ _ _ h => h) (Or.inl ⟨by rfl, ?_⟩) ?_ ?_
        rotate_left; ·intro w'; go_simp; with_reducible rfl
        rotate_left; ·simp only [Act.put, sA_,sZ_,sS_, i64_w, i32_w]; rfl
        refine pure_ (i := 8) (N := some 82) (v := ?_) (a' := ?_) #[T_,T_,T_,T_,T_,T_,T_,T_,T_,F_,F_,F_,F_,F_,F_,F_,F_,F_,F_,F_,F_,F_,F_,F_,F_,F_] rfl rfl (any_of HT_.out (by kernel_rfl)) (fun _ _ _ h => h) (Or.inl ⟨by rfl, ?_⟩) ?_ ?_
        rotate_left; ·intro w'; go_simp; with_reducible rfl
        rotate_left; ·simp only [Act.put, sA_,sZ_,sS_, i64_w, i32_w]; rfl
        refine pure_ (i := 9) (N := some 83) (v := ?_) (a' := ?_) #[T_,T_,T_,T_,T_,T_,T_,T_,T_,T_,F_,F_,F_,F_,F_,F_,F_,F_,F_,F_,F_,F_,F_,F_,F_,F_] rfl rfl (any_of HT_.out (by kernel_rfl)) (fun _ _ _ h => h) (Or.inl ⟨by rfl, ?_⟩) ?_ ?_
        rotate_left; ·intro w'; go_simp; with_reducible rfl
        rotate_left; ·simp only [Act.put, sA_,sZ_,sS_, i64_w, i32_w]; rfl
        refine pure_ (i := 10) (N := some 84) (v := ?_) (a' := ?_) #[T_,T_,T_,T_,T_,T_,T_,T_,T_,T_,T_,F_,F_,F_,F_,F_,F_,F_,F_,F_,F_,F_,F_,F_,F_,F_] rfl rfl (any_of HT_.out (by kernel_rfl)) (fun _ _ _ h => h) (Or.inl ⟨by rfl, ?_⟩) ?_ ?_
        rotate_left; ·intro w'; go_simp; with_reducible rfl
        rotate_left; ·simp only [Act.put, sA_,sZ_,sS_, i64_w, i32_w]; rfl
        refine pure_ (i := 11) (N := some 85) (v := ?_) (a' := ?_) #[T_,T_,T_,T_,T_,T_,T_,T_,T_,T_,T_,T_,F_,F_,F_,F_,F_,F_,F_,F_,F_,F_,F_,F_,F_,F_] rfl rfl (any_of HT_.out (by kernel_rfl)) (fun _ _ _ h => h) (Or.inl ⟨by rfl, ?_⟩) ?_ ?_
        rotate_left; ·intro w'; go_simp; with_reducible rfl
        rotate_left; ·simp only [Act.put, sA_,sZ_,sS_, i64_w, i32_w]; rfl
        refine pure_ (i := 12) (N := some 86) (v := ?_) (a' := ?_) #[T_,T_,T_,T_,T_,T_,T_,T_,T_,T_,T_,T_,T_,F_,F_,F_,F_,F_,F_,F_,F_,F_,F_,F_,F_,F_] rfl rfl (any_of HT_.out (by kernel_rfl)) (fun _ _ _ h => h) (Or.inl ⟨by rfl, ?_⟩) ?_ ?_
        rotate_left; ·intro w'; go_simp; with_reducible rfl
        rotate_left; ·simp only [Act.put, sA_,sZ_,sS_, i64_w, i32_w]; rfl
        refine pure_ (i := 13) (N := some 87) (v := ?_) (a' := ?_) #[T_,T_,T_,T_,T_,T_,T_,T_,T_,T_,T_,T_,T_,T_,F_,F_,F_,F_,F_,F_,F_,F_,F_,F_,F_,F_] rfl rfl (any_of HT_.out (by kernel_rfl)) (fun _ _ _ h => h) (Or.inl ⟨by rfl, ?_⟩) ?_ ?_
        rotate_left; ·intro w'; go_simp; with_reducible rfl
        rotate_left; ·simp only [Act.put, sA_,sZ_,sS_, i64_w, i32_w]; rfl
        refine pure_ (i := 14) (N := some 88) (v := ?_) (a' := ?_) #[T_,T_,T_,T_,T_,T_,T_,T_,T_,T_,T_,T_,T_,T_,T_,F_,F_,F_,F_,F_,F_,F_,F_,F_,F_,F_] rfl rfl (any_of HT_.out (by kernel_rfl)) (fun _ _ _ h => h) (Or.inl ⟨by rfl, ?_⟩) ?_ ?_
        rotate_left; ·intro w'; go_simp; with_reducible rfl
        rotate_left; ·simp only [Act.put, sA_,sZ_,sS_, i64_w, i32_w]; rfl
        refine pure_ (i := 15) (N := some 89) (v := undef) (a' := ?_) #[T_,T_,T_,T_,T_,T_,T_,T_,T_,T_,T_,T_,T_,T_,T_,T_,F_,F_,F_,F_,F_,F_,F_,F_,F_,F_] rfl rfl (any_of HT_.out (by kernel_rfl)) (fun _ _ _ h => h) (Or.inr ⟨by rfl, rfl⟩) ?_ ?_
        rotate_left; ·simp only [Act.put, sA_,sZ_,sS_, i64_w, i32_w]; rfl
        refine pure_ (i := 16) (N := some 90) (v := undef) (a' := ?_) #[T_,T_,T_,T_,T_,T_,T_,T_,T_,T_,T_,T_,T_,T_,T_,T_,T_,F_,F_,F_,F_,F_,F_,F_,F_,F_] rfl rfl (any_of HT_.out (by kernel_rfl)) (fun _ _ _ h => h) (Or.inr ⟨by rfl, rfl⟩) ?_ ?_
        rotate_left; ·simp only [Act.put, sA_,sZ_,sS_, i64_w, i32_w]; rfl
        refine pure_ (i := 17) (N := some 91) (v := undef) (a' := ?_) #[T_,T_,T_,T_,T_,T_,T_,T_,T_,T_,T_,T_,T_,T_,T_,T_,T_,T_,F_,F_,F_,F_,F_,F_,F_,F_] rfl rfl (any_of HT_.out (by kernel_rfl)) (fun _ _ _ h => h) (Or.inr ⟨by rfl, rfl⟩) ?_ ?_
        rotate_left; ·simp only [Act.put, sA_,sZ_,sS_, i64_w, i32_w]; rfl
        refine pure_ (i := 18) (N := some 92) (v := ?_) (a' := ?_) #[T_,T_,T_,T_,T_,T_,T_,T_,T_,T_,T_,T_,T_,T_,T_,T_,T_,T_,T_,F_,F_,F_,F_,F_,F_,F_] rfl rfl (any_of HT_.out (by kernel_rfl)) (fun _ _ _ h => h) (Or.inl ⟨by rfl, ?_⟩) ?_ ?_
        rotate_left; ·intro w'; go_simp; with_reducible rfl
        rotate_left; ·simp only [Act.put, sA_,sZ_,sS_, i64_w, i32_w]; rfl
        refine pure_ (i := 19) (N := some 93) (v := ?_) (a' := ?_) #[T_,T_,T_,T_,T_,T_,T_,T_,T_,T_,T_,T_,T_,T_,T_,T_,T_,T_,T_,T_,F_,F_,F_,F_,F_,F_] rfl rfl (any_of HT_.out (by kernel_rfl)) (fun _ _ _ h => h) (Or.inl ⟨by rfl, ?_⟩) ?_ ?_
        rotate_left; ·intro w'; go_simp; with_reducible rfl
        rotate_left; ·simp only [Act.put, sA_,sZ_,sS_, i64_w, i32_w]; rfl
        refine pure_ (i := 20) (N := some 94) (v := undef) (a' := ?_) #[T_,T_,T_,T_,T_,T_,T_,T_,T_,T_,T_,T_,T_,T_,T_,T_,T_,T_,T_,T_,T_,F_,F_,F_,F_,F_] rfl rfl (any_of HT_.out (by kernel_rfl)) (fun _ _ _ h => h) (Or.inr ⟨by rfl, rfl⟩) ?_ ?_
        rotate_left; ·simp only [Act.put, sA_,sZ_,sS_, i64_w, i32_w]; rfl
        refine pure_ (i := 21) (N := some 95) (v := undef) (a' := ?_) #[T_,T_,T_,T_,T_,T_,T_,T_,T_,T_,T_,T_,T_,T_,T_,T_,T_,T_,T_,T_,T_,T_,F_,F_,F_,F_] rfl rfl (any_of HT_.out (by kernel_rfl)) (fun _ _ _ h => h) (Or.inr ⟨by rfl, rfl⟩) ?_ ?_
        rotate_left; ·simp only [Act.put, sA_,sZ_,sS_, i64_w, i32_w]; rfl
        refine pure_ (i := 22) (N := some 96) (v := undef) (a' := ?_) #[T_,T_,T_,T_,T_,T_,T_,T_,T_,T_,T_,T_,T_,T_,T_,T_,T_,T_,T_,T_,T_,T_,T_,F_,F_,F_] rfl rfl (any_of HT_.out (by kernel_rfl)) (fun _ _ _ h => h) (Or.inr ⟨by rfl, rfl⟩) ?_ ?_
        rotate_left; ·simp only [Act.put, sA_,sZ_,sS_, i64_w, i32_w]; rfl
        refine pure_ (i := 23) (N := some 97) (v := undef) (a' := ?_) #[T_,T_,T_,T_,T_,T_,T_,T_,T_,T_,T_,T_,T_,T_,T_,T_,T_,T_,T_,T_,T_,T_,T_,T_,F_,F_] rfl rfl (any_of HT_.out (by kernel_rfl)) (fun _ _ _ h => h) (Or.inr ⟨by rfl, rfl⟩) ?_ ?_
        rotate_left; ·simp only [Act.put, sA_,sZ_,sS_, i64_w, i32_w]; rfl
        refine pure_ (i := 24) (N := some 98) (v := undef) (a' := ?_) #[T_,T_,T_,T_,T_,T_,T_,T_,T_,T_,T_,T_,T_,T_,T_,T_,T_,T_,T_,T_,T_,T_,T_,T_,T_,F_] rfl rfl (any_of HT_.out (by kernel_rfl)) (fun _ _ _ h => h) (Or.inr ⟨by rfl, rfl⟩) ?_ ?_
        rotate_left; ·simp only [Act.put, sA_,sZ_,sS_, i64_w, i32_w]; rfl
        refine pure_ (i := 25) (N := some 99) (v := ?_) (a' := ?_) #[T_,T_,T_,T_,T_,T_,T_,T_,T_,T_,T_,T_,T_,T_,T_,T_,T_,T_,T_,T_,T_,T_,T_,T_,T_,T_] rfl rfl (any_of HT_.out (by kernel_rfl)) (fun _ _ _ h => h) (Or.inl ⟨by rfl, ?_⟩) ?_ ?_
        rotate_left; ·intro w'; go_simp; with_reducible rfl
        rotate_left; ·simp only [Act.put, sA_,sZ_,sS_, i64_w, i32_w]; rfl
        refine done_ (done_of HT_.out (by kernel_rfl)) ?_
        try go_wp2
        go_meet
        case rel => exact ⟨_, (true), (by first | rfl | (simp; done) | (simp [*]; done)), H', ⟨by have := HJ3.out; first | omega | exact Nat.le_refl _⟩, ⟨by (with_reducible repeat (first | apply vA_ | apply vN_ | apply vD_)); exact hV_ HO275.out (fun _ hk => ⟨hk.1.1, ⟨hk.1.2.1, ⟨hk.1.2.2, hk.2⟩⟩⟩)⟩, ⟨by (with_reducible repeat (first | apply vA_ | apply vN_ | apply vD_)); exact hV_ HO278.out (fun _ hk => ⟨hk.1.1, ⟨hk.1.2.1, ⟨hk.1.2.2, hk.2⟩⟩⟩)⟩, ⟨by (with_reducible repeat (first | apply vA_ | apply vN_ | apply vD_)); exact hV_ HO283.out (fun _ hk => ⟨hk.1.1, ⟨hk.1.2.1, ⟨hk.1.2.2, hk.2⟩⟩⟩)⟩, ⟨by (with_reducible repeat (first | apply vA_ | apply vN_ | apply vD_)); exact hV_ HO286.out (fun _ hk => ⟨hk.1.1, ⟨hk.1.2.1, ⟨hk.1.2.2, hk.2⟩⟩⟩)⟩, ⟨by (with_reducible repeat (first | apply xN_ | apply xD_ | apply xA_)); exact BK269.out⟩, ⟨by (with_reducible repeat (first | apply xN_ | apply xD_ | apply xA_)); exact BK270.out⟩, ⟨by (with_reducible repeat (first | apply xN_ | apply xD_ | apply xA_)); exact BK280.out⟩, ⟨by (with_reducible repeat (first | apply xN_ | apply xD_ | apply xA_)); exact BK288.out⟩, ⟨by repeat (first | (with_reducible first | exact HB.out | apply yA_ | apply yN_ | apply yD_ | refine yS_ ?_ GE269.out | refine yS_ ?_ GE270.out | refine yS_ ?_ GE280.out | refine yS_ ?_ GE288.out) | exact HB.out)⟩⟩
      ·rw [if_neg c58] at H
       have c58b0 : (t279 == t287) = false := beq_eq_false_iff_ne.mpr c58
       have c58b1 : (t279 != t287) = true := bne_iff_ne.mpr c58
       (first | rw [c58b0] | (simp only [i64_w, i32_w]; rw [c58b0]) | skip)
       have H' := aM_ H
       clear H
       try go_wp2
       replace HO275 := aM_ (vD_ HO275.out)
       replace HO278 := aM_ (vD_ HO278.out)
       replace HO283 := aM_ (vD_ HO283.out)
       replace HO286 := aM_ (vD_ HO286.out)
       replace BK269 := aM_ (xD_ BK269.out)
       replace BK270 := aM_ (xD_ BK270.out)
       replace BK280 := aM_ (xD_ BK280.out)
       replace BK288 := aM_ (xD_ BK288.out)
       replace HB := aM_ (yD_ HB.out)
       refine start_ (n := 26) (S := fun w' => w'.cell? ⟨gb280, 0, none⟩ = some (.slice Ao34 t273.length co34) ∧ w'.cell? ⟨gb280, 1, none⟩ = some (.slice Ao38 t276.length co38) ∧ w'.cell? ⟨gb288, 0, none⟩ = some (.slice Ao44 t281.length co44) ∧ w'.cell? ⟨gb288, 1, none⟩ = some (.slice Ao49 t284.length co49)) (ds := []) #[F_,F_,F_,F_,F_,F_,F_,F_,F_,F_,F_,F_,F_,F_,F_,F_,F_,F_,F_,F_,F_,F_,F_,F_,F_,F_] (by kernel_rfl) rfl rfl ⟨(xC_ BK280.out 0).trans rfl, (xC_ BK280.out 1).trans rfl, (xC_ BK288.out 0).trans rfl, (xC_ BK288.out 1).trans rfl⟩ (fun hHeld => ?_); refine with_tabW armadalaw01_DiskTells.tab7 armadalaw01_DiskTells.bits7 (fun HT_ HW_ => ?_)
       generalize w55.drew = w71 at HO275 HO278 HO283 HO286 BK269 BK270 BK280 BK288 HB hHeld ⊢
       refine take_ (i := 0) (N := some 74) (v := ?_) (a' := ?_) #[T_,F_,F_,F_,F_,F_,F_,F_,F_,F_,F_,F_,F_,F_,F_,F_,F_,F_,F_,F_,F_,F_,F_,F_,F_,F_] rfl rfl (take_ofW HT_.out HW_.out (by kernel_rfl)) (fun _ _ _ h => h) (Or.inl ⟨by rfl, ?_⟩) hHeld ?_ ?_
       rotate_left
       ·rintro w' ⟨s0, s1, s2, s3⟩
        go_simp
        with_reducible rfl
       rotate_left; ·simp only [Act.put, sA_,sZ_,sS_, i64_w, i32_w]; rfl
       refine take_ (i := 1) (N := some 75) (v := ?_) (a' := ?_) #[T_,T_,F_,F_,F_,F_,F_,F_,F_,F_,F_,F_,F_,F_,F_,F_,F_,F_,F_,F_,F_,F_,F_,F_,F_,F_] rfl rfl (take_ofW HT_.out HW_.out (by kernel_rfl)) (fun _ _ _ h => h) (Or.inl ⟨by rfl, ?_⟩) hHeld ?_ ?_
       rotate_left
       ·rintro w' ⟨s0, s1, s2, s3⟩
        go_simp
        with_reducible rfl
       rotate_left; ·simp only [Act.put, sA_,sZ_,sS_, i64_w, i32_w]; rfl
       refine one_ (i := 2) (N := some 76) #[T_,T_,T_,F_,F_,F_,F_,F_,F_,F_,F_,F_,F_,F_,F_,F_,F_,F_,F_,F_,F_,F_,F_,F_,F_,F_] rfl rfl (one_of HT_.out (by kernel_rfl)) (by decide) (fun K hK => ?_)
       refine goes_ Try.func15 (by kernel_rfl) rfl #[.agg #[.slice Ao34 t273.length co34, .slice Ao38 t276.length co38], .agg #[.slice Ao44 t281.length co44, .slice Ao49 t284.length co49]] (by rfl) rfl rfl (by (try simp only [List.map_toArray, List.map_cons, List.map_nil]); first | done | rfl) ?_
       with_reducible refine (armadaref01_Same.calls kj3 _ _ t273 _ _ t276 _ _ t281 _ _ t284 true _ ?side1 ?side2 ?side3 ?side4 ?side5 ?side6 ?side7 ?side8 A56.out).mono ?_
       (case side1 => repeat (first | exact (Kd.V_reads' HO275.out).2.2 | (with_reducible refine Kd.C_alloc ?_ _) | (with_reducible refine Kd.C_drewN ?_ _) | (with_reducible refine Kd.C_drew ?_)))
       (case side2 => exact (Kd.V_reads' HO275.out).2.1)
       (case side3 => repeat (first | exact (Kd.V_reads' HO278.out).2.2 | (with_reducible refine Kd.C_alloc ?_ _) | (with_reducible refine Kd.C_drewN ?_ _) | (with_reducible refine Kd.C_drew ?_)))
       (case side4 => exact (Kd.V_reads' HO278.out).2.1)
       (case side5 => repeat (first | exact (Kd.V_reads' HO283.out).2.2 | (with_reducible refine Kd.C_alloc ?_ _) | (with_reducible refine Kd.C_drewN ?_ _) | (with_reducible refine Kd.C_drew ?_)))
       (case side6 => exact (Kd.V_reads' HO283.out).2.1)
       (case side7 => repeat (first | exact (Kd.V_reads' HO286.out).2.2 | (with_reducible refine Kd.C_alloc ?_ _) | (with_reducible refine Kd.C_drewN ?_ _) | (with_reducible refine Kd.C_drew ?_)))
       (case side8 => exact (Kd.V_reads' HO286.out).2.1)
       rintro e w72 ⟨rfl, hb⟩
       refine ⟨_, rfl, ?_⟩
       have hz_ := zq HB (by repeat (first | (with_reducible first | exact Below.refl _ _ | apply yA_ | apply yN_ | apply yD_) | exact Below.refl _ _)) hb
       replace hb := below_step hz_ hb
       replace HO275 := zV HO275 hb
       replace HO278 := zV HO278 hb
       replace HO283 := zV HO283 hb
       replace HO286 := zV HO286 hb
       replace BK269 := zB BK269 hb
       replace BK270 := zB BK270 hb
       replace BK280 := zB BK280 hb
       replace BK288 := zB BK288 hb
       replace HB := zH HB hb
       clear hz_
       (try clear hb)
       (try clear hb2)
       (try clear hk)
       (try clear hi)
       refine hK.out _ _ ⟨(xC_ BK280.out 0).trans rfl, (xC_ BK280.out 1).trans rfl, (xC_ BK288.out 0).trans rfl, (xC_ BK288.out 1).trans rfl⟩ (fun hHeld => ?_)
       clear hK K
       refine norm_ (a' := ?_) ?_ ?_
       rotate_left
       ·show Act.put _ (some 76) _ = _
        simp only [Act.put, sA_,sZ_,sS_, i64_w, i32_w]
        rfl
       refine pure_ (i := 3) (N := some 77) (v := ?_) (a' := ?_) #[T_,T_,T_,T_,F_,F_,F_,F_,F_,F_,F_,F_,F_,F_,F_,F_,F_,F_,F_,F_,F_,F_,F_,F_,F_,F_] rfl rfl (any_of HT_.out (by kernel_rfl)) (fun _ _ _ h => h) (Or.inl ⟨by rfl, ?_⟩) ?_ ?_
       rotate_left; ·intro w'; go_simp; with_reducible rfl
       rotate_left; ·simp only [Act.put, sA_,sZ_,sS_, i64_w, i32_w]; rfl
       refine pure_ (i := 4) (N := some 78) (v := ?_) (a' := ?_) #[T_,T_,T_,T_,T_,F_,F_,F_,F_,F_,F_,F_,F_,F_,F_,F_,F_,F_,F_,F_,F_,F_,F_,F_,F_,F_] rfl rfl (any_of HT_.out (by kernel_rfl)) (fun _ _ _ h => h) (Or.inl ⟨by rfl, ?_⟩) ?_ ?_
       rotate_left; ·intro w'; go_simp; with_reducible rfl
       rotate_left; ·simp only [Act.put, sA_,sZ_,sS_, i64_w, i32_w]; rfl
       refine pure_ (i := 5) (N := some 79) (v := ?_) (a' := ?_) #[T_,T_,T_,T_,T_,T_,F_,F_,F_,F_,F_,F_,F_,F_,F_,F_,F_,F_,F_,F_,F_,F_,F_,F_,F_,F_] rfl rfl (any_of HT_.out (by kernel_rfl)) (fun _ _ _ h => h) (Or.inl ⟨by rfl, ?_⟩) ?_ ?_
       rotate_left; ·intro w'; go_simp; with_reducible rfl
       rotate_left; ·simp only [Act.put, sA_,sZ_,sS_, i64_w, i32_w]; rfl
       refine pure_ (i := 6) (N := some 80) (v := ?_) (a' := ?_) #[T_,T_,T_,T_,T_,T_,T_,F_,F_,F_,F_,F_,F_,F_,F_,F_,F_,F_,F_,F_,F_,F_,F_,F_,F_,F_] rfl rfl (any_of HT_.out (by kernel_rfl)) (fun _ _ _ h => h) (Or.inl ⟨by rfl, ?_⟩) ?_ ?_
       rotate_left; ·intro w'; go_simp; with_reducible rfl
       rotate_left; ·simp only [Act.put, sA_,sZ_,sS_, i64_w, i32_w]; rfl
       refine pure_ (i := 7) (N := some 81) (v := ?_) (a' := ?_) #[T_,T_,T_,T_,T_,T_,T_,T_,F_,F_,F_,F_,F_,F_,F_,F_,F_,F_,F_,F_,F_,F_,F_,F_,F_,F_] rfl rfl (any_of HT_.out (by kernel_rfl)) (fun _ _ _ h => h) (Or.inl ⟨by rfl, ?_⟩) ?_ ?_
       rotate_left; ·intro w'; go_simp; with_reducible rfl
       rotate_left; ·simp only [Act.put, sA_,sZ_,sS_, i64_w, i32_w]; rfl
       refine pure_ (i := 8) (N := some 82) (v := ?_) (a' := ?_) #[T_,T_,T_,T_,T_,T_,T_,T_,T_,F_,F_,F_,F_,F_,F_,F_,F_,F_,F_,F_,F_,F_,F_,F_,F_,F_] rfl rfl (any_of HT_.out (by kernel_rfl)) (fun _ _ _ h => h) (Or.inl ⟨by rfl, ?_⟩) ?_ ?_
       rotate_left; ·intro w'; go_simp; with_reducible rfl
       rotate_left; ·simp only [Act.put, sA_,sZ_,sS_, i64_w, i32_w]; rfl
       refine pure_ (i := 9) (N := some 83) (v := ?_) (a' := ?_) #[T_,T_,T_,T_,T_,T_,T_,T_,T_,T_,F_,F_,F_,F_,F_,F_,F_,F_,F_,F_,F_,F_,F_,F_,F_,F_] rfl rfl (any_of HT_.out (by kernel_rfl)) (fun _ _ _ h => h) (Or.inl ⟨by rfl, ?_⟩) ?_ ?_
       rotate_left; ·intro w'; go_simp; with_reducible rfl
       rotate_left; ·simp only [Act.put, sA_,sZ_,sS_, i64_w, i32_w]; rfl
       refine pure_ (i := 10) (N := some 84) (v := undef) (a' := ?_) #[T_,T_,T_,T_,T_,T_,T_,T_,T_,T_,T_,F_,F_,F_,F_,F_,F_,F_,F_,F_,F_,F_,F_,F_,F_,F_] rfl rfl (any_of HT_.out (by kernel_rfl)) (fun _ _ _ h => h) (Or.inr ⟨by rfl, rfl⟩) ?_ ?_
       rotate_left; ·simp only [Act.put, sA_,sZ_,sS_, i64_w, i32_w]; rfl
       refine pure_ (i := 11) (N := some 85) (v := undef) (a' := ?_) #[T_,T_,T_,T_,T_,T_,T_,T_,T_,T_,T_,T_,F_,F_,F_,F_,F_,F_,F_,F_,F_,F_,F_,F_,F_,F_] rfl rfl (any_of HT_.out (by kernel_rfl)) (fun _ _ _ h => h) (Or.inr ⟨by rfl, rfl⟩) ?_ ?_
       rotate_left; ·simp only [Act.put, sA_,sZ_,sS_, i64_w, i32_w]; rfl
       refine pure_ (i := 12) (N := some 86) (v := undef) (a' := ?_) #[T_,T_,T_,T_,T_,T_,T_,T_,T_,T_,T_,T_,T_,F_,F_,F_,F_,F_,F_,F_,F_,F_,F_,F_,F_,F_] rfl rfl (any_of HT_.out (by kernel_rfl)) (fun _ _ _ h => h) (Or.inr ⟨by rfl, rfl⟩) ?_ ?_
       rotate_left; ·simp only [Act.put, sA_,sZ_,sS_, i64_w, i32_w]; rfl
       refine pure_ (i := 13) (N := some 87) (v := ?_) (a' := ?_) #[T_,T_,T_,T_,T_,T_,T_,T_,T_,T_,T_,T_,T_,T_,F_,F_,F_,F_,F_,F_,F_,F_,F_,F_,F_,F_] rfl rfl (any_of HT_.out (by kernel_rfl)) (fun _ _ _ h => h) (Or.inl ⟨by rfl, ?_⟩) ?_ ?_
       rotate_left; ·intro w'; go_simp; with_reducible rfl
       rotate_left; ·simp only [Act.put, sA_,sZ_,sS_, i64_w, i32_w]; rfl
       refine pure_ (i := 14) (N := some 88) (v := ?_) (a' := ?_) #[T_,T_,T_,T_,T_,T_,T_,T_,T_,T_,T_,T_,T_,T_,T_,F_,F_,F_,F_,F_,F_,F_,F_,F_,F_,F_] rfl rfl (any_of HT_.out (by kernel_rfl)) (fun _ _ _ h => h) (Or.inl ⟨by rfl, ?_⟩) ?_ ?_
       rotate_left; ·intro w'; go_simp; with_reducible rfl
       rotate_left; ·simp only [Act.put, sA_,sZ_,sS_, i64_w, i32_w]; rfl
       refine pure_ (i := 15) (N := some 89) (v := undef) (a' := ?_) #[T_,T_,T_,T_,T_,T_,T_,T_,T_,T_,T_,T_,T_,T_,T_,T_,F_,F_,F_,F_,F_,F_,F_,F_,F_,F_] rfl rfl (any_of HT_.out (by kernel_rfl)) (fun _ _ _ h => h) (Or.inr ⟨by rfl, rfl⟩) ?_ ?_
       rotate_left; ·simp only [Act.put, sA_,sZ_,sS_, i64_w, i32_w]; rfl
       refine pure_ (i := 16) (N := some 90) (v := undef) (a' := ?_) #[T_,T_,T_,T_,T_,T_,T_,T_,T_,T_,T_,T_,T_,T_,T_,T_,T_,F_,F_,F_,F_,F_,F_,F_,F_,F_] rfl rfl (any_of HT_.out (by kernel_rfl)) (fun _ _ _ h => h) (Or.inr ⟨by rfl, rfl⟩) ?_ ?_
       rotate_left; ·simp only [Act.put, sA_,sZ_,sS_, i64_w, i32_w]; rfl
       refine pure_ (i := 17) (N := some 91) (v := undef) (a' := ?_) #[T_,T_,T_,T_,T_,T_,T_,T_,T_,T_,T_,T_,T_,T_,T_,T_,T_,T_,F_,F_,F_,F_,F_,F_,F_,F_] rfl rfl (any_of HT_.out (by kernel_rfl)) (fun _ _ _ h => h) (Or.inr ⟨by rfl, rfl⟩) ?_ ?_
       rotate_left; ·simp only [Act.put, sA_,sZ_,sS_, i64_w, i32_w]; rfl
       refine pure_ (i := 18) (N := some 92) (v := ?_) (a' := ?_) #[T_,T_,T_,T_,T_,T_,T_,T_,T_,T_,T_,T_,T_,T_,T_,T_,T_,T_,T_,F_,F_,F_,F_,F_,F_,F_] rfl rfl (any_of HT_.out (by kernel_rfl)) (fun _ _ _ h => h) (Or.inl ⟨by rfl, ?_⟩) ?_ ?_
       rotate_left; ·intro w'; go_simp; with_reducible rfl
       rotate_left; ·simp only [Act.put, sA_,sZ_,sS_, i64_w, i32_w]; rfl
       refine pure_ (i := 19) (N := some 93) (v := ?_) (a' := ?_) #[T_,T_,T_,T_,T_,T_,T_,T_,T_,T_,T_,T_,T_,T_,T_,T_,T_,T_,T_,T_,F_,F_,F_,F_,F_,F_] rfl rfl (any_of HT_.out (by kernel_rfl)) (fun _ _ _ h => h) (Or.inl ⟨by rfl, ?_⟩) ?_ ?_
       rotate_left; ·intro w'; go_simp; with_reducible rfl
       rotate_left; ·simp only [Act.put, sA_,sZ_,sS_, i64_w, i32_w]; rfl
       refine pure_ (i := 20) (N := some 94) (v := undef) (a' := ?_) #[T_,T_,T_,T_,T_,T_,T_,T_,T_,T_,T_,T_,T_,T_,T_,T_,T_,T_,T_,T_,T_,F_,F_,F_,F_,F_] rfl rfl (any_of HT_.out (by kernel_rfl)) (fun _ _ _ h => h) (Or.inr ⟨by rfl, rfl⟩) ?_ ?_
       rotate_left; ·simp only [Act.put, sA_,sZ_,sS_, i64_w, i32_w]; rfl
       refine pure_ (i := 21) (N := some 95) (v := undef) (a' := ?_) #[T_,T_,T_,T_,T_,T_,T_,T_,T_,T_,T_,T_,T_,T_,T_,T_,T_,T_,T_,T_,T_,T_,F_,F_,F_,F_] rfl rfl (any_of HT_.out (by kernel_rfl)) (fun _ _ _ h => h) (Or.inr ⟨by rfl, rfl⟩) ?_ ?_
       rotate_left; ·simp only [Act.put, sA_,sZ_,sS_, i64_w, i32_w]; rfl
       refine pure_ (i := 22) (N := some 96) (v := undef) (a' := ?_) #[T_,T_,T_,T_,T_,T_,T_,T_,T_,T_,T_,T_,T_,T_,T_,T_,T_,T_,T_,T_,T_,T_,T_,F_,F_,F_] rfl rfl (any_of HT_.out (by kernel_rfl)) (fun _ _ _ h => h) (Or.inr ⟨by rfl, rfl⟩) ?_ ?_
       rotate_left; ·simp only [Act.put, sA_,sZ_,sS_, i64_w, i32_w]; rfl
       refine pure_ (i := 23) (N := some 97) (v := undef) (a' := ?_) #[T_,T_,T_,T_,T_,T_,T_,T_,T_,T_,T_,T_,T_,T_,T_,T_,T_,T_,T_,T_,T_,T_,T_,T_,F_,F_] rfl rfl (any_of HT_.out (by kernel_rfl)) (fun _ _ _ h => h) (Or.inr ⟨by rfl, rfl⟩) ?_ ?_
       rotate_left; ·simp only [Act.put, sA_,sZ_,sS_, i64_w, i32_w]; rfl
       refine pure_ (i := 24) (N := some 98) (v := undef) (a' := ?_) #[T_,T_,T_,T_,T_,T_,T_,T_,T_,T_,T_,T_,T_,T_,T_,T_,T_,T_,T_,T_,T_,T_,T_,T_,T_,F_] rfl rfl (any_of HT_.out (by kernel_rfl)) (fun _ _ _ h => h) (Or.inr ⟨by rfl, rfl⟩) ?_ ?_
       rotate_left; ·simp only [Act.put, sA_,sZ_,sS_, i64_w, i32_w]; rfl
       refine pure_ (i := 25) (N := some 99) (v := ?_) (a' := ?_) #[T_,T_,T_,T_,T_,T_,T_,T_,T_,T_,T_,T_,T_,T_,T_,T_,T_,T_,T_,T_,T_,T_,T_,T_,T_,T_] rfl rfl (any_of HT_.out (by kernel_rfl)) (fun _ _ _ h => h) (Or.inl ⟨by rfl, ?_⟩) ?_ ?_
       rotate_left; ·intro w'; go_simp; with_reducible rfl
       rotate_left; ·simp only [Act.put, sA_,sZ_,sS_, i64_w, i32_w]; rfl
       refine done_ (done_of HT_.out (by kernel_rfl)) ?_
       try go_wp2
       go_meet
       case rel => exact ⟨_, (true), (by first | rfl | (simp; done) | (simp [*]; done)), H', ⟨by have := HJ3.out; first | omega | exact Nat.le_refl _⟩, ⟨by (with_reducible repeat (first | apply vA_ | apply vN_ | apply vD_)); exact hV_ HO275.out (fun _ hk => ⟨hk.1.1, ⟨hk.1.2.1, ⟨hk.1.2.2, hk.2⟩⟩⟩)⟩, ⟨by (with_reducible repeat (first | apply vA_ | apply vN_ | apply vD_)); exact hV_ HO278.out (fun _ hk => ⟨hk.1.1, ⟨hk.1.2.1, ⟨hk.1.2.2, hk.2⟩⟩⟩)⟩, ⟨by (with_reducible repeat (first | apply vA_ | apply vN_ | apply vD_)); exact hV_ HO283.out (fun _ hk => ⟨hk.1.1, ⟨hk.1.2.1, ⟨hk.1.2.2, hk.2⟩⟩⟩)⟩, ⟨by (with_reducible repeat (first | apply vA_ | apply vN_ | apply vD_)); exact hV_ HO286.out (fun _ hk => ⟨hk.1.1, ⟨hk.1.2.1, ⟨hk.1.2.2, hk.2⟩⟩⟩)⟩, ⟨by (with_reducible repeat (first | apply xN_ | apply xD_ | apply xA_)); exact BK269.out⟩, ⟨by (with_reducible repeat (first | apply xN_ | apply xD_ | apply xA_)); exact BK270.out⟩, ⟨by (with_reducible repeat (first | apply xN_ | apply xD_ | apply xA_)); exact BK280.out⟩, ⟨by (with_reducible repeat (first | apply xN_ | apply xD_ | apply xA_)); exact BK288.out⟩, ⟨by repeat (first | (with_reducible first | exact HB.out | apply yA_ | apply yN_ | apply yD_ | refine yS_ ?_ GE269.out | refine yS_ ?_ GE270.out | refine yS_ ?_ GE280.out | refine yS_ ?_ GE288.out) | exact HB.out)⟩⟩
     ·replace c57 := Bool.eq_false_iff.mpr c57
      subst c57
      have H1 : (armadalaw01_DiskTells.j1 kj3 l2 true l0_0 l0_1 a1_0 a1_1 t273 t276) = some true := by rw [if_neg (show ¬ (false = true) by decide)] at H; exact H
      clear H
      have H := H1
      clear H1
      have H' := aM_ H
      clear H
      try go_wp2
      replace HO275 := aM_ (vD_ HO275.out)
      replace HO278 := aM_ (vD_ HO278.out)
      replace HO283 := aM_ (vD_ HO283.out)
      replace HO286 := aM_ (vD_ HO286.out)
      replace BK269 := aM_ (xD_ BK269.out)
      replace BK270 := aM_ (xD_ BK270.out)
      replace BK280 := aM_ (xD_ BK280.out)
      replace BK288 := aM_ (xD_ BK288.out)
      replace HB := aM_ (yD_ HB.out)
      refine start_ (n := 26) (S := fun w' => w'.cell? ⟨gb280, 0, none⟩ = some (.slice Ao34 t273.length co34) ∧ w'.cell? ⟨gb280, 1, none⟩ = some (.slice Ao38 t276.length co38) ∧ w'.cell? ⟨gb288, 0, none⟩ = some (.slice Ao44 t281.length co44) ∧ w'.cell? ⟨gb288, 1, none⟩ = some (.slice Ao49 t284.length co49)) (ds := []) #[F_,F_,F_,F_,F_,F_,F_,F_,F_,F_,F_,F_,F_,F_,F_,F_,F_,F_,F_,F_,F_,F_,F_,F_,F_,F_] (by kernel_rfl) rfl rfl ⟨(xC_ BK280.out 0).trans rfl, (xC_ BK280.out 1).trans rfl, (xC_ BK288.out 0).trans rfl, (xC_ BK288.out 1).trans rfl⟩ (fun hHeld => ?_); refine with_tabW armadalaw01_DiskTells.tab7 armadalaw01_DiskTells.bits7 (fun HT_ HW_ => ?_)
      generalize w55.drew = w73 at HO275 HO278 HO283 HO286 BK269 BK270 BK280 BK288 HB hHeld ⊢
      refine take_ (i := 0) (N := some 74) (v := ?_) (a' := ?_) #[T_,F_,F_,F_,F_,F_,F_,F_,F_,F_,F_,F_,F_,F_,F_,F_,F_,F_,F_,F_,F_,F_,F_,F_,F_,F_] rfl rfl (take_ofW HT_.out HW_.out (by kernel_rfl)) (fun _ _ _ h => h) (Or.inl ⟨by rfl, ?_⟩) hHeld ?_ ?_
      rotate_left
      ·rintro w' ⟨s0, s1, s2, s3⟩
       go_simp
       with_reducible rfl
      rotate_left; ·simp only [Act.put, sA_,sZ_,sS_, i64_w, i32_w]; rfl
      refine take_ (i := 1) (N := some 75) (v := ?_) (a' := ?_) #[T_,T_,F_,F_,F_,F_,F_,F_,F_,F_,F_,F_,F_,F_,F_,F_,F_,F_,F_,F_,F_,F_,F_,F_,F_,F_] rfl rfl (take_ofW HT_.out HW_.out (by kernel_rfl)) (fun _ _ _ h => h) (Or.inl ⟨by rfl, ?_⟩) hHeld ?_ ?_
      rotate_left
      ·rintro w' ⟨s0, s1, s2, s3⟩
       go_simp
       with_reducible rfl
      rotate_left; ·simp only [Act.put, sA_,sZ_,sS_, i64_w, i32_w]; rfl
      refine one_ (i := 2) (N := some 76) #[T_,T_,T_,F_,F_,F_,F_,F_,F_,F_,F_,F_,F_,F_,F_,F_,F_,F_,F_,F_,F_,F_,F_,F_,F_,F_] rfl rfl (one_of HT_.out (by kernel_rfl)) (by decide) (fun K hK => ?_)
      refine goes_ Try.func15 (by kernel_rfl) rfl #[.agg #[.slice Ao34 t273.length co34, .slice Ao38 t276.length co38], .agg #[.slice Ao44 t281.length co44, .slice Ao49 t284.length co49]] (by rfl) rfl rfl (by (try simp only [List.map_toArray, List.map_cons, List.map_nil]); first | done | rfl) ?_
      with_reducible refine (armadaref01_Same.calls kj3 _ _ t273 _ _ t276 _ _ t281 _ _ t284 false _ ?side1 ?side2 ?side3 ?side4 ?side5 ?side6 ?side7 ?side8 A56.out).mono ?_
      (case side1 => repeat (first | exact (Kd.V_reads' HO275.out).2.2 | (with_reducible refine Kd.C_alloc ?_ _) | (with_reducible refine Kd.C_drewN ?_ _) | (with_reducible refine Kd.C_drew ?_)))
      (case side2 => exact (Kd.V_reads' HO275.out).2.1)
      (case side3 => repeat (first | exact (Kd.V_reads' HO278.out).2.2 | (with_reducible refine Kd.C_alloc ?_ _) | (with_reducible refine Kd.C_drewN ?_ _) | (with_reducible refine Kd.C_drew ?_)))
      (case side4 => exact (Kd.V_reads' HO278.out).2.1)
      (case side5 => repeat (first | exact (Kd.V_reads' HO283.out).2.2 | (with_reducible refine Kd.C_alloc ?_ _) | (with_reducible refine Kd.C_drewN ?_ _) | (with_reducible refine Kd.C_drew ?_)))
      (case side6 => exact (Kd.V_reads' HO283.out).2.1)
      (case side7 => repeat (first | exact (Kd.V_reads' HO286.out).2.2 | (with_reducible refine Kd.C_alloc ?_ _) | (with_reducible refine Kd.C_drewN ?_ _) | (with_reducible refine Kd.C_drew ?_)))
      (case side8 => exact (Kd.V_reads' HO286.out).2.1)
      rintro e w74 ⟨rfl, hb⟩
      refine ⟨_, rfl, ?_⟩
      have hz_ := zq HB (by repeat (first | (with_reducible first | exact Below.refl _ _ | apply yA_ | apply yN_ | apply yD_) | exact Below.refl _ _)) hb
      replace hb := below_step hz_ hb
      replace HO275 := zV HO275 hb
      replace HO278 := zV HO278 hb
      replace HO283 := zV HO283 hb
      replace HO286 := zV HO286 hb
      replace BK269 := zB BK269 hb
      replace BK270 := zB BK270 hb
      replace BK280 := zB BK280 hb
      replace BK288 := zB BK288 hb
      replace HB := zH HB hb
      clear hz_
      (try clear hb)
      (try clear hb2)
      (try clear hk)
      (try clear hi)
      refine hK.out _ _ ⟨(xC_ BK280.out 0).trans rfl, (xC_ BK280.out 1).trans rfl, (xC_ BK288.out 0).trans rfl, (xC_ BK288.out 1).trans rfl⟩ (fun hHeld => ?_)
      clear hK K
      refine norm_ (a' := ?_) ?_ ?_
      rotate_left
      ·show Act.put _ (some 76) _ = _
       simp only [Act.put, sA_,sZ_,sS_, i64_w, i32_w]
       rfl
      refine pure_ (i := 3) (N := some 77) (v := ?_) (a' := ?_) #[T_,T_,T_,T_,F_,F_,F_,F_,F_,F_,F_,F_,F_,F_,F_,F_,F_,F_,F_,F_,F_,F_,F_,F_,F_,F_] rfl rfl (any_of HT_.out (by kernel_rfl)) (fun _ _ _ h => h) (Or.inl ⟨by rfl, ?_⟩) ?_ ?_
      rotate_left; ·intro w'; go_simp; with_reducible rfl
      rotate_left; ·simp only [Act.put, sA_,sZ_,sS_, i64_w, i32_w]; rfl
      refine pure_ (i := 4) (N := some 78) (v := ?_) (a' := ?_) #[T_,T_,T_,T_,T_,F_,F_,F_,F_,F_,F_,F_,F_,F_,F_,F_,F_,F_,F_,F_,F_,F_,F_,F_,F_,F_] rfl rfl (any_of HT_.out (by kernel_rfl)) (fun _ _ _ h => h) (Or.inl ⟨by rfl, ?_⟩) ?_ ?_
      rotate_left; ·intro w'; go_simp; with_reducible rfl
      rotate_left; ·simp only [Act.put, sA_,sZ_,sS_, i64_w, i32_w]; rfl
      refine pure_ (i := 5) (N := some 79) (v := undef) (a' := ?_) #[T_,T_,T_,T_,T_,T_,F_,F_,F_,F_,F_,F_,F_,F_,F_,F_,F_,F_,F_,F_,F_,F_,F_,F_,F_,F_] rfl rfl (any_of HT_.out (by kernel_rfl)) (fun _ _ _ h => h) (Or.inr ⟨by rfl, rfl⟩) ?_ ?_
      rotate_left; ·simp only [Act.put, sA_,sZ_,sS_, i64_w, i32_w]; rfl
      refine pure_ (i := 6) (N := some 80) (v := undef) (a' := ?_) #[T_,T_,T_,T_,T_,T_,T_,F_,F_,F_,F_,F_,F_,F_,F_,F_,F_,F_,F_,F_,F_,F_,F_,F_,F_,F_] rfl rfl (any_of HT_.out (by kernel_rfl)) (fun _ _ _ h => h) (Or.inr ⟨by rfl, rfl⟩) ?_ ?_
      rotate_left; ·simp only [Act.put, sA_,sZ_,sS_, i64_w, i32_w]; rfl
      refine pure_ (i := 7) (N := some 81) (v := undef) (a' := ?_) #[T_,T_,T_,T_,T_,T_,T_,T_,F_,F_,F_,F_,F_,F_,F_,F_,F_,F_,F_,F_,F_,F_,F_,F_,F_,F_] rfl rfl (any_of HT_.out (by kernel_rfl)) (fun _ _ _ h => h) (Or.inr ⟨by rfl, rfl⟩) ?_ ?_
      rotate_left; ·simp only [Act.put, sA_,sZ_,sS_, i64_w, i32_w]; rfl
      refine pure_ (i := 8) (N := some 82) (v := ?_) (a' := ?_) #[T_,T_,T_,T_,T_,T_,T_,T_,T_,F_,F_,F_,F_,F_,F_,F_,F_,F_,F_,F_,F_,F_,F_,F_,F_,F_] rfl rfl (any_of HT_.out (by kernel_rfl)) (fun _ _ _ h => h) (Or.inl ⟨by rfl, ?_⟩) ?_ ?_
      rotate_left; ·intro w'; go_simp; with_reducible rfl
      rotate_left; ·simp only [Act.put, sA_,sZ_,sS_, i64_w, i32_w]; rfl
      refine pure_ (i := 9) (N := some 83) (v := ?_) (a' := ?_) #[T_,T_,T_,T_,T_,T_,T_,T_,T_,T_,F_,F_,F_,F_,F_,F_,F_,F_,F_,F_,F_,F_,F_,F_,F_,F_] rfl rfl (any_of HT_.out (by kernel_rfl)) (fun _ _ _ h => h) (Or.inl ⟨by rfl, ?_⟩) ?_ ?_
      rotate_left; ·intro w'; go_simp; with_reducible rfl
      rotate_left; ·simp only [Act.put, sA_,sZ_,sS_, i64_w, i32_w]; rfl
      refine pure_ (i := 10) (N := some 84) (v := undef) (a' := ?_) #[T_,T_,T_,T_,T_,T_,T_,T_,T_,T_,T_,F_,F_,F_,F_,F_,F_,F_,F_,F_,F_,F_,F_,F_,F_,F_] rfl rfl (any_of HT_.out (by kernel_rfl)) (fun _ _ _ h => h) (Or.inr ⟨by rfl, rfl⟩) ?_ ?_
      rotate_left; ·simp only [Act.put, sA_,sZ_,sS_, i64_w, i32_w]; rfl
      refine pure_ (i := 11) (N := some 85) (v := undef) (a' := ?_) #[T_,T_,T_,T_,T_,T_,T_,T_,T_,T_,T_,T_,F_,F_,F_,F_,F_,F_,F_,F_,F_,F_,F_,F_,F_,F_] rfl rfl (any_of HT_.out (by kernel_rfl)) (fun _ _ _ h => h) (Or.inr ⟨by rfl, rfl⟩) ?_ ?_
      rotate_left; ·simp only [Act.put, sA_,sZ_,sS_, i64_w, i32_w]; rfl
      refine pure_ (i := 12) (N := some 86) (v := undef) (a' := ?_) #[T_,T_,T_,T_,T_,T_,T_,T_,T_,T_,T_,T_,T_,F_,F_,F_,F_,F_,F_,F_,F_,F_,F_,F_,F_,F_] rfl rfl (any_of HT_.out (by kernel_rfl)) (fun _ _ _ h => h) (Or.inr ⟨by rfl, rfl⟩) ?_ ?_
      rotate_left; ·simp only [Act.put, sA_,sZ_,sS_, i64_w, i32_w]; rfl
      refine pure_ (i := 13) (N := some 87) (v := ?_) (a' := ?_) #[T_,T_,T_,T_,T_,T_,T_,T_,T_,T_,T_,T_,T_,T_,F_,F_,F_,F_,F_,F_,F_,F_,F_,F_,F_,F_] rfl rfl (any_of HT_.out (by kernel_rfl)) (fun _ _ _ h => h) (Or.inl ⟨by rfl, ?_⟩) ?_ ?_
      rotate_left; ·intro w'; go_simp; with_reducible rfl
      rotate_left; ·simp only [Act.put, sA_,sZ_,sS_, i64_w, i32_w]; rfl
      refine pure_ (i := 14) (N := some 88) (v := ?_) (a' := ?_) #[T_,T_,T_,T_,T_,T_,T_,T_,T_,T_,T_,T_,T_,T_,T_,F_,F_,F_,F_,F_,F_,F_,F_,F_,F_,F_] rfl rfl (any_of HT_.out (by kernel_rfl)) (fun _ _ _ h => h) (Or.inl ⟨by rfl, ?_⟩) ?_ ?_
      rotate_left; ·intro w'; go_simp; with_reducible rfl
      rotate_left; ·simp only [Act.put, sA_,sZ_,sS_, i64_w, i32_w]; rfl
      refine pure_ (i := 15) (N := some 89) (v := undef) (a' := ?_) #[T_,T_,T_,T_,T_,T_,T_,T_,T_,T_,T_,T_,T_,T_,T_,T_,F_,F_,F_,F_,F_,F_,F_,F_,F_,F_] rfl rfl (any_of HT_.out (by kernel_rfl)) (fun _ _ _ h => h) (Or.inr ⟨by rfl, rfl⟩) ?_ ?_
      rotate_left; ·simp only [Act.put, sA_,sZ_,sS_, i64_w, i32_w]; rfl
      refine pure_ (i := 16) (N := some 90) (v := undef) (a' := ?_) #[T_,T_,T_,T_,T_,T_,T_,T_,T_,T_,T_,T_,T_,T_,T_,T_,T_,F_,F_,F_,F_,F_,F_,F_,F_,F_] rfl rfl (any_of HT_.out (by kernel_rfl)) (fun _ _ _ h => h) (Or.inr ⟨by rfl, rfl⟩) ?_ ?_
      rotate_left; ·simp only [Act.put, sA_,sZ_,sS_, i64_w, i32_w]; rfl
      refine pure_ (i := 17) (N := some 91) (v := undef) (a' := ?_) #[T_,T_,T_,T_,T_,T_,T_,T_,T_,T_,T_,T_,T_,T_,T_,T_,T_,T_,F_,F_,F_,F_,F_,F_,F_,F_] rfl rfl (any_of HT_.out (by kernel_rfl)) (fun _ _ _ h => h) (Or.inr ⟨by rfl, rfl⟩) ?_ ?_
      rotate_left; ·simp only [Act.put, sA_,sZ_,sS_, i64_w, i32_w]; rfl
      refine pure_ (i := 18) (N := some 92) (v := ?_) (a' := ?_) #[T_,T_,T_,T_,T_,T_,T_,T_,T_,T_,T_,T_,T_,T_,T_,T_,T_,T_,T_,F_,F_,F_,F_,F_,F_,F_] rfl rfl (any_of HT_.out (by kernel_rfl)) (fun _ _ _ h => h) (Or.inl ⟨by rfl, ?_⟩) ?_ ?_
      rotate_left; ·intro w'; go_simp; with_reducible rfl
      rotate_left; ·simp only [Act.put, sA_,sZ_,sS_, i64_w, i32_w]; rfl
      refine pure_ (i := 19) (N := some 93) (v := ?_) (a' := ?_) #[T_,T_,T_,T_,T_,T_,T_,T_,T_,T_,T_,T_,T_,T_,T_,T_,T_,T_,T_,T_,F_,F_,F_,F_,F_,F_] rfl rfl (any_of HT_.out (by kernel_rfl)) (fun _ _ _ h => h) (Or.inl ⟨by rfl, ?_⟩) ?_ ?_
      rotate_left; ·intro w'; go_simp; with_reducible rfl
      rotate_left; ·simp only [Act.put, sA_,sZ_,sS_, i64_w, i32_w]; rfl
      refine pure_ (i := 20) (N := some 94) (v := undef) (a' := ?_) #[T_,T_,T_,T_,T_,T_,T_,T_,T_,T_,T_,T_,T_,T_,T_,T_,T_,T_,T_,T_,T_,F_,F_,F_,F_,F_] rfl rfl (any_of HT_.out (by kernel_rfl)) (fun _ _ _ h => h) (Or.inr ⟨by rfl, rfl⟩) ?_ ?_
      rotate_left; ·simp only [Act.put, sA_,sZ_,sS_, i64_w, i32_w]; rfl
      refine pure_ (i := 21) (N := some 95) (v := undef) (a' := ?_) #[T_,T_,T_,T_,T_,T_,T_,T_,T_,T_,T_,T_,T_,T_,T_,T_,T_,T_,T_,T_,T_,T_,F_,F_,F_,F_] rfl rfl (any_of HT_.out (by kernel_rfl)) (fun _ _ _ h => h) (Or.inr ⟨by rfl, rfl⟩) ?_ ?_
      rotate_left; ·simp only [Act.put, sA_,sZ_,sS_, i64_w, i32_w]; rfl
      refine pure_ (i := 22) (N := some 96) (v := undef) (a' := ?_) #[T_,T_,T_,T_,T_,T_,T_,T_,T_,T_,T_,T_,T_,T_,T_,T_,T_,T_,T_,T_,T_,T_,T_,F_,F_,F_] rfl rfl (any_of HT_.out (by kernel_rfl)) (fun _ _ _ h => h) (Or.inr ⟨by rfl, rfl⟩) ?_ ?_
      rotate_left; ·simp only [Act.put, sA_,sZ_,sS_, i64_w, i32_w]; rfl
      refine pure_ (i := 23) (N := some 97) (v := undef) (a' := ?_) #[T_,T_,T_,T_,T_,T_,T_,T_,T_,T_,T_,T_,T_,T_,T_,T_,T_,T_,T_,T_,T_,T_,T_,T_,F_,F_] rfl rfl (any_of HT_.out (by kernel_rfl)) (fun _ _ _ h => h) (Or.inr ⟨by rfl, rfl⟩) ?_ ?_
      rotate_left; ·simp only [Act.put, sA_,sZ_,sS_, i64_w, i32_w]; rfl
      refine pure_ (i := 24) (N := some 98) (v := undef) (a' := ?_) #[T_,T_,T_,T_,T_,T_,T_,T_,T_,T_,T_,T_,T_,T_,T_,T_,T_,T_,T_,T_,T_,T_,T_,T_,T_,F_] rfl rfl (any_of HT_.out (by kernel_rfl)) (fun _ _ _ h => h) (Or.inr ⟨by rfl, rfl⟩) ?_ ?_
      rotate_left; ·simp only [Act.put, sA_,sZ_,sS_, i64_w, i32_w]; rfl
      refine pure_ (i := 25) (N := some 99) (v := ?_) (a' := ?_) #[T_,T_,T_,T_,T_,T_,T_,T_,T_,T_,T_,T_,T_,T_,T_,T_,T_,T_,T_,T_,T_,T_,T_,T_,T_,T_] rfl rfl (any_of HT_.out (by kernel_rfl)) (fun _ _ _ h => h) (Or.inl ⟨by rfl, ?_⟩) ?_ ?_
      rotate_left; ·intro w'; go_simp; with_reducible rfl
      rotate_left; ·simp only [Act.put, sA_,sZ_,sS_, i64_w, i32_w]; rfl
      refine done_ (done_of HT_.out (by kernel_rfl)) ?_
      try go_wp2
      go_meet
      case rel => exact ⟨_, (true), (by first | rfl | (simp; done) | (simp [*]; done)), H', ⟨by have := HJ3.out; first | omega | exact Nat.le_refl _⟩, ⟨by (with_reducible repeat (first | apply vA_ | apply vN_ | apply vD_)); exact hV_ HO275.out (fun _ hk => ⟨hk.1.1, ⟨hk.1.2.1, ⟨hk.1.2.2, hk.2⟩⟩⟩)⟩, ⟨by (with_reducible repeat (first | apply vA_ | apply vN_ | apply vD_)); exact hV_ HO278.out (fun _ hk => ⟨hk.1.1, ⟨hk.1.2.1, ⟨hk.1.2.2, hk.2⟩⟩⟩)⟩, ⟨by (with_reducible repeat (first | apply vA_ | apply vN_ | apply vD_)); exact hV_ HO283.out (fun _ hk => ⟨hk.1.1, ⟨hk.1.2.1, ⟨hk.1.2.2, hk.2⟩⟩⟩)⟩, ⟨by (with_reducible repeat (first | apply vA_ | apply vN_ | apply vD_)); exact hV_ HO286.out (fun _ hk => ⟨hk.1.1, ⟨hk.1.2.1, ⟨hk.1.2.2, hk.2⟩⟩⟩)⟩, ⟨by (with_reducible repeat (first | apply xN_ | apply xD_ | apply xA_)); exact BK269.out⟩, ⟨by (with_reducible repeat (first | apply xN_ | apply xD_ | apply xA_)); exact BK270.out⟩, ⟨by (with_reducible repeat (first | apply xN_ | apply xD_ | apply xA_)); exact BK280.out⟩, ⟨by (with_reducible repeat (first | apply xN_ | apply xD_ | apply xA_)); exact BK288.out⟩, ⟨by repeat (first | (with_reducible first | exact HB.out | apply yA_ | apply yN_ | apply yD_ | refine yS_ ?_ GE269.out | refine yS_ ?_ GE270.out | refine yS_ ?_ GE280.out | refine yS_ ?_ GE288.out) | exact HB.out)⟩⟩
    case rest =>
     clear HC28
     (try clear c1); (try clear p2); (try clear c5); (try clear c15); (try clear c57); (try clear c58); (try clear c58b0); (try clear c58b1)
     obtain ⟨kq, x99_27, rfl, HA, HJ27, HO_281000, HO_281001, HO_289000, HO_289001, BK269, BK270, BK280, BK288, HB⟩ := hcut
     cases kq with
     | zero => exact absurd HA.out (by simp [armadalaw01_DiskTells.j1])
     | succ kj27 =>
      have H := HA.out
      clear HA
      simp only [armadalaw01_DiskTells.j1] at H
      by_cases c75 : x99_27 = true
      ·subst c75
       have H1 : (some false) = some true := by rw [if_pos rfl] at H; exact H
       clear H
       have H := H1
       clear H1
       exact absurd H (by simp)
      ·replace c75 := Bool.eq_false_iff.mpr c75
       subst c75
       have H1 : ((disk_Flush.f l0_0 l0_1).bind fun bt296 => ((armadaref01_Flush.f kj27 l0_0 l0_1).bind fun bt304 => ((disk_Crash.f l0_0 l0_1 l2).bind fun bt312 => ((armadaref01_Crash.f kj27 l0_0 l0_1 l2).bind fun bt320 => ((disk_New.f a1_0).bind fun bt328 => ((armadaref01_New.f kj27 a1_0).bind fun bt336 => ((armadaref01_Same.f kj27 bt296.1 bt296.2.1 bt304.1 bt304.2.1).bind fun t344 => (if t344 = true then (if bt296.2.2 = bt304.2.2 then ((armadaref01_Same.f kj27 bt312.1 bt312.2.1 bt320.1 bt320.2.1).bind fun t345 => (if t345 = true then (if bt312.2.2 = bt320.2.2 then ((armadaref01_Same.f kj27 bt328.1 bt328.2.1 bt336.1 bt336.2.1).bind fun t346 => (if t346 = true then (if (bt328.2.2 == bt336.2.2) = true then ((disk_Same.f kj27 l0_0 l0_1 t273 t276).bind fun t347 => ((armadaref01_Same.f kj27 l0_0 l0_1 t273 t276).bind fun t348 => (if (t347 == t348) = true then ((armadalaw01_live.f kj27).bind fun t349 => (some t349)) else (some false)))) else (some false)) else (some false))) else (some false)) else (some false))) else (some false)) else (some false))))))))) = some true := by rw [if_neg (show ¬ (false = true) by decide)] at H; exact H
       clear H
       have H := H1
       clear H1
       replace H := Option.bind_eq_some_iff.mp H
       obtain ⟨⟨t296, t299, t302⟩, A760, H⟩ := H
       replace H : ((armadaref01_Flush.f kj27 l0_0 l0_1).bind fun bt304 => ((disk_Crash.f l0_0 l0_1 l2).bind fun bt312 => ((armadaref01_Crash.f kj27 l0_0 l0_1 l2).bind fun bt320 => ((disk_New.f a1_0).bind fun bt328 => ((armadaref01_New.f kj27 a1_0).bind fun bt336 => ((armadaref01_Same.f kj27 t296 t299 bt304.1 bt304.2.1).bind fun t344 => (if t344 = true then (if t302 = bt304.2.2 then ((armadaref01_Same.f kj27 bt312.1 bt312.2.1 bt320.1 bt320.2.1).bind fun t345 => (if t345 = true then (if bt312.2.2 = bt320.2.2 then ((armadaref01_Same.f kj27 bt328.1 bt328.2.1 bt336.1 bt336.2.1).bind fun t346 => (if t346 = true then (if (bt328.2.2 == bt336.2.2) = true then ((disk_Same.f kj27 l0_0 l0_1 t273 t276).bind fun t347 => ((armadaref01_Same.f kj27 l0_0 l0_1 t273 t276).bind fun t348 => (if (t347 == t348) = true then ((armadalaw01_live.f kj27).bind fun t349 => (some t349)) else (some false)))) else (some false)) else (some false))) else (some false)) else (some false))) else (some false)) else (some false)))))))) = some true := H
       have A76 := aM_ A760
       clear A760
       replace H := Option.bind_eq_some_iff.mp H
       obtain ⟨⟨t304, t307, t310⟩, A770, H⟩ := H
       replace H : ((disk_Crash.f l0_0 l0_1 l2).bind fun bt312 => ((armadaref01_Crash.f kj27 l0_0 l0_1 l2).bind fun bt320 => ((disk_New.f a1_0).bind fun bt328 => ((armadaref01_New.f kj27 a1_0).bind fun bt336 => ((armadaref01_Same.f kj27 t296 t299 t304 t307).bind fun t344 => (if t344 = true then (if t302 = t310 then ((armadaref01_Same.f kj27 bt312.1 bt312.2.1 bt320.1 bt320.2.1).bind fun t345 => (if t345 = true then (if bt312.2.2 = bt320.2.2 then ((armadaref01_Same.f kj27 bt328.1 bt328.2.1 bt336.1 bt336.2.1).bind fun t346 => (if t346 = true then (if (bt328.2.2 == bt336.2.2) = true then ((disk_Same.f kj27 l0_0 l0_1 t273 t276).bind fun t347 => ((armadaref01_Same.f kj27 l0_0 l0_1 t273 t276).bind fun t348 => (if (t347 == t348) = true then ((armadalaw01_live.f kj27).bind fun t349 => (some t349)) else (some false)))) else (some false)) else (some false))) else (some false)) else (some false))) else (some false)) else (some false))))))) = some true := H
       have A77 := aM_ A770
       clear A770
       replace H := Option.bind_eq_some_iff.mp H
       obtain ⟨⟨t312, t315, t318⟩, A780, H⟩ := H
       replace H : ((armadaref01_Crash.f kj27 l0_0 l0_1 l2).bind fun bt320 => ((disk_New.f a1_0).bind fun bt328 => ((armadaref01_New.f kj27 a1_0).bind fun bt336 => ((armadaref01_Same.f kj27 t296 t299 t304 t307).bind fun t344 => (if t344 = true then (if t302 = t310 then ((armadaref01_Same.f kj27 t312 t315 bt320.1 bt320.2.1).bind fun t345 => (if t345 = true then (if t318 = bt320.2.2 then ((armadaref01_Same.f kj27 bt328.1 bt328.2.1 bt336.1 bt336.2.1).bind fun t346 => (if t346 = true then (if (bt328.2.2 == bt336.2.2) = true then ((disk_Same.f kj27 l0_0 l0_1 t273 t276).bind fun t347 => ((armadaref01_Same.f kj27 l0_0 l0_1 t273 t276).bind fun t348 => (if (t347 == t348) = true then ((armadalaw01_live.f kj27).bind fun t349 => (some t349)) else (some false)))) else (some false)) else (some false))) else (some false)) else (some false))) else (some false)) else (some false)))))) = some true := H
       have A78 := aM_ A780
       clear A780
       replace H := Option.bind_eq_some_iff.mp H
       obtain ⟨⟨t320, t323, t326⟩, A790, H⟩ := H
       replace H : ((disk_New.f a1_0).bind fun bt328 => ((armadaref01_New.f kj27 a1_0).bind fun bt336 => ((armadaref01_Same.f kj27 t296 t299 t304 t307).bind fun t344 => (if t344 = true then (if t302 = t310 then ((armadaref01_Same.f kj27 t312 t315 t320 t323).bind fun t345 => (if t345 = true then (if t318 = t326 then ((armadaref01_Same.f kj27 bt328.1 bt328.2.1 bt336.1 bt336.2.1).bind fun t346 => (if t346 = true then (if (bt328.2.2 == bt336.2.2) = true then ((disk_Same.f kj27 l0_0 l0_1 t273 t276).bind fun t347 => ((armadaref01_Same.f kj27 l0_0 l0_1 t273 t276).bind fun t348 => (if (t347 == t348) = true then ((armadalaw01_live.f kj27).bind fun t349 => (some t349)) else (some false)))) else (some false)) else (some false))) else (some false)) else (some false))) else (some false)) else (some false))))) = some true := H
       have A79 := aM_ A790
       clear A790
       replace H := Option.bind_eq_some_iff.mp H
       obtain ⟨⟨t328, t331, t334⟩, A800, H⟩ := H
       replace H : ((armadaref01_New.f kj27 a1_0).bind fun bt336 => ((armadaref01_Same.f kj27 t296 t299 t304 t307).bind fun t344 => (if t344 = true then (if t302 = t310 then ((armadaref01_Same.f kj27 t312 t315 t320 t323).bind fun t345 => (if t345 = true then (if t318 = t326 then ((armadaref01_Same.f kj27 t328 t331 bt336.1 bt336.2.1).bind fun t346 => (if t346 = true then (if (t334 == bt336.2.2) = true then ((disk_Same.f kj27 l0_0 l0_1 t273 t276).bind fun t347 => ((armadaref01_Same.f kj27 l0_0 l0_1 t273 t276).bind fun t348 => (if (t347 == t348) = true then ((armadalaw01_live.f kj27).bind fun t349 => (some t349)) else (some false)))) else (some false)) else (some false))) else (some false)) else (some false))) else (some false)) else (some false)))) = some true := H
       have A80 := aM_ A800
       clear A800
       replace H := Option.bind_eq_some_iff.mp H
       obtain ⟨⟨t336, t339, t342⟩, A810, H⟩ := H
       replace H : ((armadaref01_Same.f kj27 t296 t299 t304 t307).bind fun t344 => (if t344 = true then (if t302 = t310 then ((armadaref01_Same.f kj27 t312 t315 t320 t323).bind fun t345 => (if t345 = true then (if t318 = t326 then ((armadaref01_Same.f kj27 t328 t331 t336 t339).bind fun t346 => (if t346 = true then (if (t334 == t342) = true then ((disk_Same.f kj27 l0_0 l0_1 t273 t276).bind fun t347 => ((armadaref01_Same.f kj27 l0_0 l0_1 t273 t276).bind fun t348 => (if (t347 == t348) = true then ((armadalaw01_live.f kj27).bind fun t349 => (some t349)) else (some false)))) else (some false)) else (some false))) else (some false)) else (some false))) else (some false)) else (some false))) = some true := H
       have A81 := aM_ A810
       clear A810
       replace H := Option.bind_eq_some_iff.mp H
       obtain ⟨t344, A820, H⟩ := H
       replace H : (if t344 = true then (if t302 = t310 then ((armadaref01_Same.f kj27 t312 t315 t320 t323).bind fun t345 => (if t345 = true then (if t318 = t326 then ((armadaref01_Same.f kj27 t328 t331 t336 t339).bind fun t346 => (if t346 = true then (if (t334 == t342) = true then ((disk_Same.f kj27 l0_0 l0_1 t273 t276).bind fun t347 => ((armadaref01_Same.f kj27 l0_0 l0_1 t273 t276).bind fun t348 => (if (t347 == t348) = true then ((armadalaw01_live.f kj27).bind fun t349 => (some t349)) else (some false)))) else (some false)) else (some false))) else (some false)) else (some false))) else (some false)) else (some false)) = some true := H
       have A82 := aM_ A820
       clear A820
       by_cases c83 : t344 = true
       ·subst c83
        have H1 : (if t302 = t310 then ((armadaref01_Same.f kj27 t312 t315 t320 t323).bind fun t345 => (if t345 = true then (if t318 = t326 then ((armadaref01_Same.f kj27 t328 t331 t336 t339).bind fun t346 => (if t346 = true then (if (t334 == t342) = true then ((disk_Same.f kj27 l0_0 l0_1 t273 t276).bind fun t347 => ((armadaref01_Same.f kj27 l0_0 l0_1 t273 t276).bind fun t348 => (if (t347 == t348) = true then ((armadalaw01_live.f kj27).bind fun t349 => (some t349)) else (some false)))) else (some false)) else (some false))) else (some false)) else (some false))) else (some false)) = some true := by rw [if_pos rfl] at H; exact H
        clear H
        have H := H1
        clear H1
        by_cases c84 : t302 = t310
        ·rw [if_pos c84] at H
         have c84b0 : (t302 == t310) = true := beq_iff_eq.mpr c84
         have c84b1 : (t302 != t310) = false := bne_eq_false_iff_eq.mpr c84
         clear c84
         replace H := Option.bind_eq_some_iff.mp H
         obtain ⟨t345, A850, H⟩ := H
         replace H : (if t345 = true then (if t318 = t326 then ((armadaref01_Same.f kj27 t328 t331 t336 t339).bind fun t346 => (if t346 = true then (if (t334 == t342) = true then ((disk_Same.f kj27 l0_0 l0_1 t273 t276).bind fun t347 => ((armadaref01_Same.f kj27 l0_0 l0_1 t273 t276).bind fun t348 => (if (t347 == t348) = true then ((armadalaw01_live.f kj27).bind fun t349 => (some t349)) else (some false)))) else (some false)) else (some false))) else (some false)) else (some false)) = some true := H
         have A85 := aM_ A850
         clear A850
         by_cases c86 : t345 = true
         ·subst c86
          have H1 : (if t318 = t326 then ((armadaref01_Same.f kj27 t328 t331 t336 t339).bind fun t346 => (if t346 = true then (if (t334 == t342) = true then ((disk_Same.f kj27 l0_0 l0_1 t273 t276).bind fun t347 => ((armadaref01_Same.f kj27 l0_0 l0_1 t273 t276).bind fun t348 => (if (t347 == t348) = true then ((armadalaw01_live.f kj27).bind fun t349 => (some t349)) else (some false)))) else (some false)) else (some false))) else (some false)) = some true := by rw [if_pos rfl] at H; exact H
          clear H
          have H := H1
          clear H1
          by_cases c87 : t318 = t326
          ·rw [if_pos c87] at H
           have c87b0 : (t318 == t326) = true := beq_iff_eq.mpr c87
           have c87b1 : (t318 != t326) = false := bne_eq_false_iff_eq.mpr c87
           clear c87
           replace H := Option.bind_eq_some_iff.mp H
           obtain ⟨t346, A880, H⟩ := H
           replace H : (if t346 = true then (if (t334 == t342) = true then ((disk_Same.f kj27 l0_0 l0_1 t273 t276).bind fun t347 => ((armadaref01_Same.f kj27 l0_0 l0_1 t273 t276).bind fun t348 => (if (t347 == t348) = true then ((armadalaw01_live.f kj27).bind fun t349 => (some t349)) else (some false)))) else (some false)) else (some false)) = some true := H
           have A88 := aM_ A880
           clear A880
           by_cases c89 : t346 = true
           ·subst c89
            have H1 : (if (t334 == t342) = true then ((disk_Same.f kj27 l0_0 l0_1 t273 t276).bind fun t347 => ((armadaref01_Same.f kj27 l0_0 l0_1 t273 t276).bind fun t348 => (if (t347 == t348) = true then ((armadalaw01_live.f kj27).bind fun t349 => (some t349)) else (some false)))) else (some false)) = some true := by rw [if_pos rfl] at H; exact H
            clear H
            have H := H1
            clear H1
            by_cases c90 : (t334 == t342) = true
            ·rw [if_pos c90] at H
             have c90b0 : (t334 == t342) = true := c90
             (try (have c90b1 : decide (t334 = t342) = true := by simpa using c90))
             (try (have c90b2 : (t334 == t342) = true := by simpa using c90))
             clear c90
             replace H := Option.bind_eq_some_iff.mp H
             obtain ⟨t347, A910, H⟩ := H
             replace H : ((armadaref01_Same.f kj27 l0_0 l0_1 t273 t276).bind fun t348 => (if (t347 == t348) = true then ((armadalaw01_live.f kj27).bind fun t349 => (some t349)) else (some false))) = some true := H
             have A91 := aM_ A910
             clear A910
             replace H := Option.bind_eq_some_iff.mp H
             obtain ⟨t348, A920, H⟩ := H
             replace H : (if (t347 == t348) = true then ((armadalaw01_live.f kj27).bind fun t349 => (some t349)) else (some false)) = some true := H
             have A92 := aM_ A920
             clear A920
             by_cases c93 : (t347 == t348) = true
             ·rw [if_pos c93] at H
              have c93b0 : (t347 == t348) = true := c93
              (try (have c93b1 : decide (t347 = t348) = true := by simpa using c93))
              (try (have c93b2 : (t347 == t348) = true := by simpa using c93))
              clear c93
              replace H := Option.bind_eq_some_iff.mp H
              obtain ⟨t349, A940, H⟩ := H
              replace H : (some t349) = some true := H
              have A94 := aM_ A940
              clear A940
              obtain rfl := Option.some.inj H
              have hnb95 := NB269_270.out
              have hnc95 := NB270_269.out
              have hnb96 := NB269_280.out
              have hnc96 := NB280_269.out
              have hnb97 := NB269_288.out
              have hnc97 := NB288_269.out
              have hcz98_0 : wc.cell? ⟨gb269, 0, none⟩ = some (.slice A0_0 l0_0.length c0_0) := (xC_ BK269.out 0).trans rfl
              have hcz98_1 : wc.cell? ⟨gb269, 1, none⟩ = some (.slice A0_1 l0_1.length c0_1) := (xC_ BK269.out 1).trans rfl
              have hfz98_0 := xF_ BK269.out 0
              have hfz98_1 := xF_ BK269.out 1
              try go_wp2_with (first | ((with_reducible refine gate_callee (f := 18) rfl ?_); refine goesL_ (some 102) rfl rfl Try.func18 (by kernel_rfl) rfl #[.agg #[.slice A0_0 l0_0.length c0_0, .slice A0_1 l0_1.length c0_1]] rfl (by (try simp only [List.map_toArray, List.map_cons, List.map_nil]); first | done | rfl) ?_; (with_reducible refine (disk_Flush.calls (fun k_ => k_ < w.heap.size) _ _ l0_0 (fun k_ => k_ < w.heap.size) _ _ l0_1 t296 t299 t302 _ ?side1 ?side2 A76.out).mono ?_); (case side1 => exact Kd.V_mk HC0_0.out (Kd.F_below (Kd.C_F Kd.heap_string HR0_0.out) (by repeat (first | (with_reducible first | exact HB.out | apply yA_ | apply yN_ | apply yD_ | refine yS_ ?_ GE269.out | refine yS_ ?_ GE270.out | refine yS_ ?_ GE280.out | refine yS_ ?_ GE288.out) | exact HB.out)))); (case side2 => exact Kd.V_mk HC0_1.out (Kd.F_below (Kd.C_F k27_heap HR0_1.out) (by repeat (first | (with_reducible first | exact HB.out | apply yA_ | apply yN_ | apply yD_ | refine yS_ ?_ GE269.out | refine yS_ ?_ GE270.out | refine yS_ ?_ GE280.out | refine yS_ ?_ GE288.out) | exact HB.out)))); rintro e w99 ⟨v297, v300, rfl, ho0, ho1, hb⟩; refine ⟨_, rfl, ?_⟩; have hz_ := zq HB (by repeat (first | (with_reducible first | exact Below.refl _ _ | apply yA_ | apply yN_ | apply yD_) | exact Below.refl _ _)) hb; replace hb := below_step hz_ hb; replace HO_281000 := zV HO_281000 hb; replace HO_281001 := zV HO_281001 hb; replace HO_289000 := zV HO_289000 hb; replace HO_289001 := zV HO_289001 hb; have HO298 := aM_ (Kd.V_lower (hV_ (ok' := fun k_ => k_ ≠ gb269 ∧ k_ ≠ gb270 ∧ k_ ≠ gb280 ∧ k_ ≠ gb288) ho0 (fun k_ hk_ => ⟨Or.elim hk_ (fun hs_ => Or.elim hs_ (zg GW269) (zg GW269)) (zf BK269 hz_ k_), Or.elim hk_ (fun hs_ => Or.elim hs_ (zg GW270) (zg GW270)) (zf BK270 hz_ k_), Or.elim hk_ (fun hs_ => Or.elim hs_ (zg GW280) (zg GW280)) (zf BK280 hz_ k_), Or.elim hk_ (fun hs_ => Or.elim hs_ (zg GW288) (zg GW288)) (zf BK288 hz_ k_)⟩)) (zs HB hz_)); have HO301 := aM_ (Kd.V_lower (hV_ (ok' := fun k_ => k_ ≠ gb269 ∧ k_ ≠ gb270 ∧ k_ ≠ gb280 ∧ k_ ≠ gb288) ho1 (fun k_ hk_ => ⟨Or.elim hk_ (fun hs_ => Or.elim hs_ (zg GW269) (zg GW269)) (zf BK269 hz_ k_), Or.elim hk_ (fun hs_ => Or.elim hs_ (zg GW270) (zg GW270)) (zf BK270 hz_ k_), Or.elim hk_ (fun hs_ => Or.elim hs_ (zg GW280) (zg GW280)) (zf BK280 hz_ k_), Or.elim hk_ (fun hs_ => Or.elim hs_ (zg GW288) (zg GW288)) (zf BK288 hz_ k_)⟩)) (zs HB hz_)); replace BK269 := zB BK269 hb; replace BK270 := zB BK270 hb; replace BK280 := zB BK280 hb; replace BK288 := zB BK288 hb; replace HB := zH HB hb; clear hz_; (try clear hb); (try clear ho0); (try clear ho1)) | ((with_reducible refine gate_dst (N := 15) rfl ?_); (try (refine gate_guard (by rfl) ?_; dsimp only)); refine box_event ?hg (N := 15) ?hd (cs := #[.slice none 0 0, .slice none 0 0]) (t := 25) ?hr ?_; (case hd => rfl); (case hg => rfl); (case hr => first | (go_simp; done) | (go_simp; rfl)); intro gb303 hg w100 hbox hb; have hz_ := zq HB (by repeat (first | (with_reducible first | exact Below.refl _ _ | apply yA_ | apply yN_ | apply yD_) | exact Below.refl _ _)) hb; replace hb := below_step hz_ hb; replace HO_281000 := zE HO_281000 hz_ hg hb; replace HO_281001 := zE HO_281001 hz_ hg hb; replace HO_289000 := zE HO_289000 hz_ hg hb; replace HO_289001 := zE HO_289001 hz_ hg hb; replace HO298 := zE HO298 hz_ hg hb; replace HO301 := zE HO301 hz_ hg hb; have BK303 := aM_ hbox; have GW303 := zG HB hz_ hg; have GE303 := zG HB hz_ hg; have NB269_303 := zN BK269 hz_ hg; have NB303_269 := zM BK269 hz_ hg; have NB270_303 := zN BK270 hz_ hg; have NB303_270 := zM BK270 hz_ hg; have NB280_303 := zN BK280 hz_ hg; have NB303_280 := zM BK280 hz_ hg; have NB288_303 := zN BK288 hz_ hg; have NB303_288 := zM BK288 hz_ hg; replace BK269 := zB BK269 hb; replace BK270 := zB BK270 hb; replace BK280 := zB BK280 hb; replace BK288 := zB BK288 hb; replace HB := zH HB hb; clear hz_; clear hb hbox hg; obtain ⟨Ao101, co101, eo101⟩ := Kd.V_slice HO298.out; subst eo101; have hnb102 := NB303_269.out; have hnc102 := NB269_303.out; have hnb103 := NB303_270.out; have hnc103 := NB270_303.out; have hnb104 := NB303_280.out; have hnc104 := NB280_303.out; have hnb105 := NB303_288.out; have hnc105 := NB288_303.out; have hcz106_0 : w100.cell? ⟨gb303, 0, none⟩ = some (.slice none 0 0) := (xC_ BK303.out 0).trans rfl; have hcz106_1 : w100.cell? ⟨gb303, 1, none⟩ = some (.slice none 0 0) := (xC_ BK303.out 1).trans rfl; have hfz106_0 := xF_ BK303.out 0; have hfz106_1 := xF_ BK303.out 1; obtain ⟨Ao107, co107, eo107⟩ := Kd.V_slice HO301.out; subst eo107) | ((with_reducible refine gate_store (t := 25) (p := 15) rfl ?_); refine store_event (t := 25) (p := 15) (v := ?vo_w108) (w1 := ((w100.setCell ⟨gb303, 0, none⟩ (.slice Ao101 t296.length co101)).setCell ⟨gb303, 1, none⟩ (.slice Ao107 t299.length co107))) ?hg ?ho ?hn ?hr ?_; (case ho => rfl); (case hg => rfl); (case hn => rfl); (case hr => first | (go_simp; done) | (go_simp; rfl)); intro w108 hw; have n0_ : Aside0 (Kd.V Kd.string 9 w108 w.heap.size (fun k_ => k_ ≠ gb269 ∧ k_ ≠ gb270 ∧ k_ ≠ gb280 ∧ k_ ≠ gb288 ∧ k_ ≠ gb303) (.slice Ao34 t273.length co34) t273) := ⟨(by rw [hw]; exact (by (with_reducible repeat (first | apply vA_ | apply vN_ | apply vD_)); exact hV_ (fV_ (p := ⟨gb303, 1, none⟩) (fV_ (p := ⟨gb303, 0, none⟩) (hV_ HO_281000.out (fun k_ hk => (⟨hk, hk.2⟩ : _ ∧ k_ ≠ gb303))) (fun _ hk => hk.2) (.slice Ao101 t296.length co101)) (fun _ hk => hk.2) (.slice Ao107 t299.length co107)) (fun _ hk => ⟨hk.1.1.1, ⟨hk.1.1.2.1, ⟨hk.1.1.2.2.1, ⟨hk.1.1.2.2.2, hk.1.2⟩⟩⟩⟩)))⟩; have n1_ : Aside0 (Kd.V k27 27 w108 w.heap.size (fun k_ => k_ ≠ gb269 ∧ k_ ≠ gb270 ∧ k_ ≠ gb280 ∧ k_ ≠ gb288 ∧ k_ ≠ gb303) (.slice Ao38 t276.length co38) t276) := ⟨(by rw [hw]; exact (by (with_reducible repeat (first | apply vA_ | apply vN_ | apply vD_)); exact hV_ (fV_ (p := ⟨gb303, 1, none⟩) (fV_ (p := ⟨gb303, 0, none⟩) (hV_ HO_281001.out (fun k_ hk => (⟨hk, hk.2⟩ : _ ∧ k_ ≠ gb303))) (fun _ hk => hk.2) (.slice Ao101 t296.length co101)) (fun _ hk => hk.2) (.slice Ao107 t299.length co107)) (fun _ hk => ⟨hk.1.1.1, ⟨hk.1.1.2.1, ⟨hk.1.1.2.2.1, ⟨hk.1.1.2.2.2, hk.1.2⟩⟩⟩⟩)))⟩; have n2_ : Aside0 (Kd.V Kd.string 9 w108 w.heap.size (fun k_ => k_ ≠ gb269 ∧ k_ ≠ gb270 ∧ k_ ≠ gb280 ∧ k_ ≠ gb288 ∧ k_ ≠ gb303) (.slice Ao44 t281.length co44) t281) := ⟨(by rw [hw]; exact (by (with_reducible repeat (first | apply vA_ | apply vN_ | apply vD_)); exact hV_ (fV_ (p := ⟨gb303, 1, none⟩) (fV_ (p := ⟨gb303, 0, none⟩) (hV_ HO_289000.out (fun k_ hk => (⟨hk, hk.2⟩ : _ ∧ k_ ≠ gb303))) (fun _ hk => hk.2) (.slice Ao101 t296.length co101)) (fun _ hk => hk.2) (.slice Ao107 t299.length co107)) (fun _ hk => ⟨hk.1.1.1, ⟨hk.1.1.2.1, ⟨hk.1.1.2.2.1, ⟨hk.1.1.2.2.2, hk.1.2⟩⟩⟩⟩)))⟩; have n3_ : Aside0 (Kd.V k27 27 w108 w.heap.size (fun k_ => k_ ≠ gb269 ∧ k_ ≠ gb270 ∧ k_ ≠ gb280 ∧ k_ ≠ gb288 ∧ k_ ≠ gb303) (.slice Ao49 t284.length co49) t284) := ⟨(by rw [hw]; exact (by (with_reducible repeat (first | apply vA_ | apply vN_ | apply vD_)); exact hV_ (fV_ (p := ⟨gb303, 1, none⟩) (fV_ (p := ⟨gb303, 0, none⟩) (hV_ HO_289001.out (fun k_ hk => (⟨hk, hk.2⟩ : _ ∧ k_ ≠ gb303))) (fun _ hk => hk.2) (.slice Ao101 t296.length co101)) (fun _ hk => hk.2) (.slice Ao107 t299.length co107)) (fun _ hk => ⟨hk.1.1.1, ⟨hk.1.1.2.1, ⟨hk.1.1.2.2.1, ⟨hk.1.1.2.2.2, hk.1.2⟩⟩⟩⟩)))⟩; have n4_ : Aside0 (Kd.V Kd.string 9 w108 w.heap.size (fun k_ => k_ ≠ gb269 ∧ k_ ≠ gb270 ∧ k_ ≠ gb280 ∧ k_ ≠ gb288 ∧ k_ ≠ gb303) (.slice Ao101 t296.length co101) t296) := ⟨(by rw [hw]; exact (by (with_reducible repeat (first | apply vA_ | apply vN_ | apply vD_)); exact hV_ (fV_ (p := ⟨gb303, 1, none⟩) (fV_ (p := ⟨gb303, 0, none⟩) (hV_ HO298.out (fun k_ hk => (⟨hk, hk.2⟩ : _ ∧ k_ ≠ gb303))) (fun _ hk => hk.2) (.slice Ao101 t296.length co101)) (fun _ hk => hk.2) (.slice Ao107 t299.length co107)) (fun _ hk => ⟨hk.1.1.1, ⟨hk.1.1.2.1, ⟨hk.1.1.2.2.1, ⟨hk.1.1.2.2.2, hk.1.2⟩⟩⟩⟩)))⟩; have n5_ : Aside0 (Kd.V k27 27 w108 w.heap.size (fun k_ => k_ ≠ gb269 ∧ k_ ≠ gb270 ∧ k_ ≠ gb280 ∧ k_ ≠ gb288 ∧ k_ ≠ gb303) (.slice Ao107 t299.length co107) t299) := ⟨(by rw [hw]; exact (by (with_reducible repeat (first | apply vA_ | apply vN_ | apply vD_)); exact hV_ (fV_ (p := ⟨gb303, 1, none⟩) (fV_ (p := ⟨gb303, 0, none⟩) (hV_ HO301.out (fun k_ hk => (⟨hk, hk.2⟩ : _ ∧ k_ ≠ gb303))) (fun _ hk => hk.2) (.slice Ao101 t296.length co101)) (fun _ hk => hk.2) (.slice Ao107 t299.length co107)) (fun _ hk => ⟨hk.1.1.1, ⟨hk.1.1.2.1, ⟨hk.1.1.2.2.1, ⟨hk.1.1.2.2.2, hk.1.2⟩⟩⟩⟩)))⟩; have n6_ : Aside0 (w108.heap[gb269]? = some (.cells #[.slice A0_0 l0_0.length c0_0, .slice A0_1 l0_1.length c0_1] 25 (0, 0))) := ⟨(by rw [hw]; exact (by (with_reducible repeat (first | apply xN_ | apply xD_ | apply xA_)); refine xR_ ?_ NB269_303.out _; refine xR_ ?_ NB269_303.out _; (with_reducible repeat (first | apply xN_ | apply xD_ | apply xA_)); exact BK269.out))⟩; have n7_ : Aside0 (w108.heap[gb270]? = some (.cells #[.int .i64 a1_0, .string a1_1] 27 (0, 0))) := ⟨(by rw [hw]; exact (by (with_reducible repeat (first | apply xN_ | apply xD_ | apply xA_)); refine xR_ ?_ NB270_303.out _; refine xR_ ?_ NB270_303.out _; (with_reducible repeat (first | apply xN_ | apply xD_ | apply xA_)); exact BK270.out))⟩; have n8_ : Aside0 (w108.heap[gb280]? = some (.cells #[.slice Ao34 t273.length co34, .slice Ao38 t276.length co38] 25 (0, 0))) := ⟨(by rw [hw]; exact (by (with_reducible repeat (first | apply xN_ | apply xD_ | apply xA_)); refine xR_ ?_ NB280_303.out _; refine xR_ ?_ NB280_303.out _; (with_reducible repeat (first | apply xN_ | apply xD_ | apply xA_)); exact BK280.out))⟩; have n9_ : Aside0 (w108.heap[gb288]? = some (.cells #[.slice Ao44 t281.length co44, .slice Ao49 t284.length co49] 25 (0, 0))) := ⟨(by rw [hw]; exact (by (with_reducible repeat (first | apply xN_ | apply xD_ | apply xA_)); refine xR_ ?_ NB288_303.out _; refine xR_ ?_ NB288_303.out _; (with_reducible repeat (first | apply xN_ | apply xD_ | apply xA_)); exact BK288.out))⟩; have n10_ : Aside0 (w108.heap[gb303]? = some (.cells #[.slice Ao101 t296.length co101, .slice Ao107 t299.length co107] 25 (0, 0))) := ⟨(by rw [hw]; exact (by (with_reducible repeat (first | apply xN_ | apply xD_ | apply xA_)); refine blk_put (cs := #[.slice Ao101 t296.length co101, .slice none 0 0]) ?_ 1 _ rfl; refine blk_put (cs := #[.slice none 0 0, .slice none 0 0]) ?_ 0 _ rfl; (with_reducible repeat (first | apply xN_ | apply xD_ | apply xA_)); exact BK303.out))⟩; have n11_ : Aside0 (Below w.heap.size w w108) := ⟨(by rw [hw]; exact (by repeat (first | (with_reducible first | exact HB.out | apply yA_ | apply yN_ | apply yD_ | refine yS_ ?_ GE269.out | refine yS_ ?_ GE270.out | refine yS_ ?_ GE280.out | refine yS_ ?_ GE288.out | refine yS_ ?_ GE303.out) | exact HB.out)))⟩; clear hw; clear HO_281000; clear HO_281001; clear HO_289000; clear HO_289001; clear HO298; clear HO301; clear BK269; clear BK270; clear BK280; clear BK288; clear BK303; clear HB; have HO_281000 := n0_; have HO_281001 := n1_; have HO_289000 := n2_; have HO_289001 := n3_; have HO298 := n4_; have HO301 := n5_; have BK269 := n6_; have BK270 := n7_; have BK280 := n8_; have BK288 := n9_; have BK303 := n10_; have HB := n11_; clear n0_ n1_ n2_ n3_ n4_ n5_ n6_ n7_ n8_ n9_ n10_ n11_; have hcz109_0 : w108.cell? ⟨gb269, 0, none⟩ = some (.slice A0_0 l0_0.length c0_0) := (xC_ BK269.out 0).trans rfl; have hcz109_1 : w108.cell? ⟨gb269, 1, none⟩ = some (.slice A0_1 l0_1.length c0_1) := (xC_ BK269.out 1).trans rfl; have hfz109_0 := xF_ BK269.out 0; have hfz109_1 := xF_ BK269.out 1) | ((with_reducible refine gate_callee (f := 19) rfl ?_); refine goesL_ (some 107) rfl rfl Try.func19 (by kernel_rfl) rfl #[.agg #[.slice A0_0 l0_0.length c0_0, .slice A0_1 l0_1.length c0_1]] rfl (by (try simp only [List.map_toArray, List.map_cons, List.map_nil]); first | done | rfl) ?_; (with_reducible refine (armadaref01_Flush.calls kj27 (fun k_ => k_ < w.heap.size) _ _ l0_0 (fun k_ => k_ < w.heap.size) _ _ l0_1 t304 t307 t310 _ ?side1 ?side2 A77.out).mono ?_); (case side1 => exact Kd.V_mk HC0_0.out (Kd.F_below (Kd.C_F Kd.heap_string HR0_0.out) (by repeat (first | (with_reducible first | exact HB.out | apply yA_ | apply yN_ | apply yD_ | refine yS_ ?_ GE269.out | refine yS_ ?_ GE270.out | refine yS_ ?_ GE280.out | refine yS_ ?_ GE288.out | refine yS_ ?_ GE303.out) | exact HB.out)))); (case side2 => exact Kd.V_mk HC0_1.out (Kd.F_below (Kd.C_F k27_heap HR0_1.out) (by repeat (first | (with_reducible first | exact HB.out | apply yA_ | apply yN_ | apply yD_ | refine yS_ ?_ GE269.out | refine yS_ ?_ GE270.out | refine yS_ ?_ GE280.out | refine yS_ ?_ GE288.out | refine yS_ ?_ GE303.out) | exact HB.out)))); rintro e w110 ⟨v305, v308, rfl, ho0, ho1, hb⟩; refine ⟨_, rfl, ?_⟩; have hz_ := zq HB (by repeat (first | (with_reducible first | exact Below.refl _ _ | apply yA_ | apply yN_ | apply yD_) | exact Below.refl _ _)) hb; replace hb := below_step hz_ hb; replace HO_281000 := zV HO_281000 hb; replace HO_281001 := zV HO_281001 hb; replace HO_289000 := zV HO_289000 hb; replace HO_289001 := zV HO_289001 hb; replace HO298 := zV HO298 hb; replace HO301 := zV HO301 hb; have HO306 := aM_ (Kd.V_lower (hV_ (ok' := fun k_ => k_ ≠ gb269 ∧ k_ ≠ gb270 ∧ k_ ≠ gb280 ∧ k_ ≠ gb288 ∧ k_ ≠ gb303) ho0 (fun k_ hk_ => ⟨Or.elim hk_ (fun hs_ => Or.elim hs_ (zg GW269) (zg GW269)) (zf BK269 hz_ k_), Or.elim hk_ (fun hs_ => Or.elim hs_ (zg GW270) (zg GW270)) (zf BK270 hz_ k_), Or.elim hk_ (fun hs_ => Or.elim hs_ (zg GW280) (zg GW280)) (zf BK280 hz_ k_), Or.elim hk_ (fun hs_ => Or.elim hs_ (zg GW288) (zg GW288)) (zf BK288 hz_ k_), Or.elim hk_ (fun hs_ => Or.elim hs_ (zg GW303) (zg GW303)) (zf BK303 hz_ k_)⟩)) (zs HB hz_)); have HO309 := aM_ (Kd.V_lower (hV_ (ok' := fun k_ => k_ ≠ gb269 ∧ k_ ≠ gb270 ∧ k_ ≠ gb280 ∧ k_ ≠ gb288 ∧ k_ ≠ gb303) ho1 (fun k_ hk_ => ⟨Or.elim hk_ (fun hs_ => Or.elim hs_ (zg GW269) (zg GW269)) (zf BK269 hz_ k_), Or.elim hk_ (fun hs_ => Or.elim hs_ (zg GW270) (zg GW270)) (zf BK270 hz_ k_), Or.elim hk_ (fun hs_ => Or.elim hs_ (zg GW280) (zg GW280)) (zf BK280 hz_ k_), Or.elim hk_ (fun hs_ => Or.elim hs_ (zg GW288) (zg GW288)) (zf BK288 hz_ k_), Or.elim hk_ (fun hs_ => Or.elim hs_ (zg GW303) (zg GW303)) (zf BK303 hz_ k_)⟩)) (zs HB hz_)); replace BK269 := zB BK269 hb; replace BK270 := zB BK270 hb; replace BK280 := zB BK280 hb; replace BK288 := zB BK288 hb; replace BK303 := zB BK303 hb; replace HB := zH HB hb; clear hz_; (try clear hb); (try clear ho0); (try clear ho1)) | ((with_reducible refine gate_dst (N := 17) rfl ?_); (try (refine gate_guard (by rfl) ?_; dsimp only)); refine box_event ?hg (N := 17) ?hd (cs := #[.slice none 0 0, .slice none 0 0]) (t := 25) ?hr ?_; (case hd => rfl); (case hg => rfl); (case hr => first | (go_simp; done) | (go_simp; rfl)); intro gb311 hg w111 hbox hb; have hz_ := zq HB (by repeat (first | (with_reducible first | exact Below.refl _ _ | apply yA_ | apply yN_ | apply yD_) | exact Below.refl _ _)) hb; replace hb := below_step hz_ hb; replace HO_281000 := zE HO_281000 hz_ hg hb; replace HO_281001 := zE HO_281001 hz_ hg hb; replace HO_289000 := zE HO_289000 hz_ hg hb; replace HO_289001 := zE HO_289001 hz_ hg hb; replace HO298 := zE HO298 hz_ hg hb; replace HO301 := zE HO301 hz_ hg hb; replace HO306 := zE HO306 hz_ hg hb; replace HO309 := zE HO309 hz_ hg hb; have BK311 := aM_ hbox; have GW311 := zG HB hz_ hg; have GE311 := zG HB hz_ hg; have NB269_311 := zN BK269 hz_ hg; have NB311_269 := zM BK269 hz_ hg; have NB270_311 := zN BK270 hz_ hg; have NB311_270 := zM BK270 hz_ hg; have NB280_311 := zN BK280 hz_ hg; have NB311_280 := zM BK280 hz_ hg; have NB288_311 := zN BK288 hz_ hg; have NB311_288 := zM BK288 hz_ hg; have NB303_311 := zN BK303 hz_ hg; have NB311_303 := zM BK303 hz_ hg; replace BK269 := zB BK269 hb; replace BK270 := zB BK270 hb; replace BK280 := zB BK280 hb; replace BK288 := zB BK288 hb; replace BK303 := zB BK303 hb; replace HB := zH HB hb; clear hz_; clear hb hbox hg; obtain ⟨Ao112, co112, eo112⟩ := Kd.V_slice HO306.out; subst eo112; have hnb113 := NB311_269.out; have hnc113 := NB269_311.out; have hnb114 := NB311_270.out; have hnc114 := NB270_311.out; have hnb115 := NB311_280.out; have hnc115 := NB280_311.out; have hnb116 := NB311_288.out; have hnc116 := NB288_311.out; have hnb117 := NB311_303.out; have hnc117 := NB303_311.out; have hcz118_0 : w111.cell? ⟨gb311, 0, none⟩ = some (.slice none 0 0) := (xC_ BK311.out 0).trans rfl; have hcz118_1 : w111.cell? ⟨gb311, 1, none⟩ = some (.slice none 0 0) := (xC_ BK311.out 1).trans rfl; have hfz118_0 := xF_ BK311.out 0; have hfz118_1 := xF_ BK311.out 1; obtain ⟨Ao119, co119, eo119⟩ := Kd.V_slice HO309.out; subst eo119) | ((with_reducible refine gate_store (t := 25) (p := 17) rfl ?_); refine store_event (t := 25) (p := 17) (v := ?vo_w120) (w1 := ((w111.setCell ⟨gb311, 0, none⟩ (.slice Ao112 t304.length co112)).setCell ⟨gb311, 1, none⟩ (.slice Ao119 t307.length co119))) ?hg ?ho ?hn ?hr ?_; (case ho => rfl); (case hg => rfl); (case hn => rfl); (case hr => first | (go_simp; done) | (go_simp; rfl)); intro w120 hw; have n0_ : Aside0 (Kd.V Kd.string 9 w120 w.heap.size (fun k_ => k_ ≠ gb269 ∧ k_ ≠ gb270 ∧ k_ ≠ gb280 ∧ k_ ≠ gb288 ∧ k_ ≠ gb303 ∧ k_ ≠ gb311) (.slice Ao34 t273.length co34) t273) := ⟨(by rw [hw]; exact (by (with_reducible repeat (first | apply vA_ | apply vN_ | apply vD_)); exact hV_ (fV_ (p := ⟨gb311, 1, none⟩) (fV_ (p := ⟨gb311, 0, none⟩) (hV_ HO_281000.out (fun k_ hk => (⟨hk, hk.2⟩ : _ ∧ k_ ≠ gb311))) (fun _ hk => hk.2) (.slice Ao112 t304.length co112)) (fun _ hk => hk.2) (.slice Ao119 t307.length co119)) (fun _ hk => ⟨hk.1.1.1, ⟨hk.1.1.2.1, ⟨hk.1.1.2.2.1, ⟨hk.1.1.2.2.2.1, ⟨hk.1.1.2.2.2.2, hk.1.2⟩⟩⟩⟩⟩)))⟩; have n1_ : Aside0 (Kd.V k27 27 w120 w.heap.size (fun k_ => k_ ≠ gb269 ∧ k_ ≠ gb270 ∧ k_ ≠ gb280 ∧ k_ ≠ gb288 ∧ k_ ≠ gb303 ∧ k_ ≠ gb311) (.slice Ao38 t276.length co38) t276) := ⟨(by rw [hw]; exact (by (with_reducible repeat (first | apply vA_ | apply vN_ | apply vD_)); exact hV_ (fV_ (p := ⟨gb311, 1, none⟩) (fV_ (p := ⟨gb311, 0, none⟩) (hV_ HO_281001.out (fun k_ hk => (⟨hk, hk.2⟩ : _ ∧ k_ ≠ gb311))) (fun _ hk => hk.2) (.slice Ao112 t304.length co112)) (fun _ hk => hk.2) (.slice Ao119 t307.length co119)) (fun _ hk => ⟨hk.1.1.1, ⟨hk.1.1.2.1, ⟨hk.1.1.2.2.1, ⟨hk.1.1.2.2.2.1, ⟨hk.1.1.2.2.2.2, hk.1.2⟩⟩⟩⟩⟩)))⟩; have n2_ : Aside0 (Kd.V Kd.string 9 w120 w.heap.size (fun k_ => k_ ≠ gb269 ∧ k_ ≠ gb270 ∧ k_ ≠ gb280 ∧ k_ ≠ gb288 ∧ k_ ≠ gb303 ∧ k_ ≠ gb311) (.slice Ao44 t281.length co44) t281) := ⟨(by rw [hw]; exact (by (with_reducible repeat (first | apply vA_ | apply vN_ | apply vD_)); exact hV_ (fV_ (p := ⟨gb311, 1, none⟩) (fV_ (p := ⟨gb311, 0, none⟩) (hV_ HO_289000.out (fun k_ hk => (⟨hk, hk.2⟩ : _ ∧ k_ ≠ gb311))) (fun _ hk => hk.2) (.slice Ao112 t304.length co112)) (fun _ hk => hk.2) (.slice Ao119 t307.length co119)) (fun _ hk => ⟨hk.1.1.1, ⟨hk.1.1.2.1, ⟨hk.1.1.2.2.1, ⟨hk.1.1.2.2.2.1, ⟨hk.1.1.2.2.2.2, hk.1.2⟩⟩⟩⟩⟩)))⟩; have n3_ : Aside0 (Kd.V k27 27 w120 w.heap.size (fun k_ => k_ ≠ gb269 ∧ k_ ≠ gb270 ∧ k_ ≠ gb280 ∧ k_ ≠ gb288 ∧ k_ ≠ gb303 ∧ k_ ≠ gb311) (.slice Ao49 t284.length co49) t284) := ⟨(by rw [hw]; exact (by (with_reducible repeat (first | apply vA_ | apply vN_ | apply vD_)); exact hV_ (fV_ (p := ⟨gb311, 1, none⟩) (fV_ (p := ⟨gb311, 0, none⟩) (hV_ HO_289001.out (fun k_ hk => (⟨hk, hk.2⟩ : _ ∧ k_ ≠ gb311))) (fun _ hk => hk.2) (.slice Ao112 t304.length co112)) (fun _ hk => hk.2) (.slice Ao119 t307.length co119)) (fun _ hk => ⟨hk.1.1.1, ⟨hk.1.1.2.1, ⟨hk.1.1.2.2.1, ⟨hk.1.1.2.2.2.1, ⟨hk.1.1.2.2.2.2, hk.1.2⟩⟩⟩⟩⟩)))⟩; have n4_ : Aside0 (Kd.V Kd.string 9 w120 w.heap.size (fun k_ => k_ ≠ gb269 ∧ k_ ≠ gb270 ∧ k_ ≠ gb280 ∧ k_ ≠ gb288 ∧ k_ ≠ gb303 ∧ k_ ≠ gb311) (.slice Ao101 t296.length co101) t296) := ⟨(by rw [hw]; exact (by (with_reducible repeat (first | apply vA_ | apply vN_ | apply vD_)); exact hV_ (fV_ (p := ⟨gb311, 1, none⟩) (fV_ (p := ⟨gb311, 0, none⟩) (hV_ HO298.out (fun k_ hk => (⟨hk, hk.2⟩ : _ ∧ k_ ≠ gb311))) (fun _ hk => hk.2) (.slice Ao112 t304.length co112)) (fun _ hk => hk.2) (.slice Ao119 t307.length co119)) (fun _ hk => ⟨hk.1.1.1, ⟨hk.1.1.2.1, ⟨hk.1.1.2.2.1, ⟨hk.1.1.2.2.2.1, ⟨hk.1.1.2.2.2.2, hk.1.2⟩⟩⟩⟩⟩)))⟩; have n5_ : Aside0 (Kd.V k27 27 w120 w.heap.size (fun k_ => k_ ≠ gb269 ∧ k_ ≠ gb270 ∧ k_ ≠ gb280 ∧ k_ ≠ gb288 ∧ k_ ≠ gb303 ∧ k_ ≠ gb311) (.slice Ao107 t299.length co107) t299) := ⟨(by rw [hw]; exact (by (with_reducible repeat (first | apply vA_ | apply vN_ | apply vD_)); exact hV_ (fV_ (p := ⟨gb311, 1, none⟩) (fV_ (p := ⟨gb311, 0, none⟩) (hV_ HO301.out (fun k_ hk => (⟨hk, hk.2⟩ : _ ∧ k_ ≠ gb311))) (fun _ hk => hk.2) (.slice Ao112 t304.length co112)) (fun _ hk => hk.2) (.slice Ao119 t307.length co119)) (fun _ hk => ⟨hk.1.1.1, ⟨hk.1.1.2.1, ⟨hk.1.1.2.2.1, ⟨hk.1.1.2.2.2.1, ⟨hk.1.1.2.2.2.2, hk.1.2⟩⟩⟩⟩⟩)))⟩; have n6_ : Aside0 (Kd.V Kd.string 9 w120 w.heap.size (fun k_ => k_ ≠ gb269 ∧ k_ ≠ gb270 ∧ k_ ≠ gb280 ∧ k_ ≠ gb288 ∧ k_ ≠ gb303 ∧ k_ ≠ gb311) (.slice Ao112 t304.length co112) t304) := ⟨(by rw [hw]; exact (by (with_reducible repeat (first | apply vA_ | apply vN_ | apply vD_)); exact hV_ (fV_ (p := ⟨gb311, 1, none⟩) (fV_ (p := ⟨gb311, 0, none⟩) (hV_ HO306.out (fun k_ hk => (⟨hk, hk.2⟩ : _ ∧ k_ ≠ gb311))) (fun _ hk => hk.2) (.slice Ao112 t304.length co112)) (fun _ hk => hk.2) (.slice Ao119 t307.length co119)) (fun _ hk => ⟨hk.1.1.1, ⟨hk.1.1.2.1, ⟨hk.1.1.2.2.1, ⟨hk.1.1.2.2.2.1, ⟨hk.1.1.2.2.2.2, hk.1.2⟩⟩⟩⟩⟩)))⟩; have n7_ : Aside0 (Kd.V k27 27 w120 w.heap.size (fun k_ => k_ ≠ gb269 ∧ k_ ≠ gb270 ∧ k_ ≠ gb280 ∧ k_ ≠ gb288 ∧ k_ ≠ gb303 ∧ k_ ≠ gb311) (.slice Ao119 t307.length co119) t307) := ⟨(by rw [hw]; exact (by (with_reducible repeat (first | apply vA_ | apply vN_ | apply vD_)); exact hV_ (fV_ (p := ⟨gb311, 1, none⟩) (fV_ (p := ⟨gb311, 0, none⟩) (hV_ HO309.out (fun k_ hk => (⟨hk, hk.2⟩ : _ ∧ k_ ≠ gb311))) (fun _ hk => hk.2) (.slice Ao112 t304.length co112)) (fun _ hk => hk.2) (.slice Ao119 t307.length co119)) (fun _ hk => ⟨hk.1.1.1, ⟨hk.1.1.2.1, ⟨hk.1.1.2.2.1, ⟨hk.1.1.2.2.2.1, ⟨hk.1.1.2.2.2.2, hk.1.2⟩⟩⟩⟩⟩)))⟩; have n8_ : Aside0 (w120.heap[gb269]? = some (.cells #[.slice A0_0 l0_0.length c0_0, .slice A0_1 l0_1.length c0_1] 25 (0, 0))) := ⟨(by rw [hw]; exact (by (with_reducible repeat (first | apply xN_ | apply xD_ | apply xA_)); refine xR_ ?_ NB269_311.out _; refine xR_ ?_ NB269_311.out _; (with_reducible repeat (first | apply xN_ | apply xD_ | apply xA_)); exact BK269.out))⟩; have n9_ : Aside0 (w120.heap[gb270]? = some (.cells #[.int .i64 a1_0, .string a1_1] 27 (0, 0))) := ⟨(by rw [hw]; exact (by (with_reducible repeat (first | apply xN_ | apply xD_ | apply xA_)); refine xR_ ?_ NB270_311.out _; refine xR_ ?_ NB270_311.out _; (with_reducible repeat (first | apply xN_ | apply xD_ | apply xA_)); exact BK270.out))⟩; have n10_ : Aside0 (w120.heap[gb280]? = some (.cells #[.slice Ao34 t273.length co34, .slice Ao38 t276.length co38] 25 (0, 0))) := ⟨(by rw [hw]; exact (by (with_reducible repeat (first | apply xN_ | apply xD_ | apply xA_)); refine xR_ ?_ NB280_311.out _; refine xR_ ?_ NB280_311.out _; (with_reducible repeat (first | apply xN_ | apply xD_ | apply xA_)); exact BK280.out))⟩; have n11_ : Aside0 (w120.heap[gb288]? = some (.cells #[.slice Ao44 t281.length co44, .slice Ao49 t284.length co49] 25 (0, 0))) := ⟨(by rw [hw]; exact (by (with_reducible repeat (first | apply xN_ | apply xD_ | apply xA_)); refine xR_ ?_ NB288_311.out _; refine xR_ ?_ NB288_311.out _; (with_reducible repeat (first | apply xN_ | apply xD_ | apply xA_)); exact BK288.out))⟩; have n12_ : Aside0 (w120.heap[gb303]? = some (.cells #[.slice Ao101 t296.length co101, .slice Ao107 t299.length co107] 25 (0, 0))) := ⟨(by rw [hw]; exact (by (with_reducible repeat (first | apply xN_ | apply xD_ | apply xA_)); refine xR_ ?_ NB303_311.out _; refine xR_ ?_ NB303_311.out _; (with_reducible repeat (first | apply xN_ | apply xD_ | apply xA_)); exact BK303.out))⟩; have n13_ : Aside0 (w120.heap[gb311]? = some (.cells #[.slice Ao112 t304.length co112, .slice Ao119 t307.length co119] 25 (0, 0))) := ⟨(by rw [hw]; exact (by (with_reducible repeat (first | apply xN_ | apply xD_ | apply xA_)); refine blk_put (cs := #[.slice Ao112 t304.length co112, .slice none 0 0]) ?_ 1 _ rfl; refine blk_put (cs := #[.slice none 0 0, .slice none 0 0]) ?_ 0 _ rfl; (with_reducible repeat (first | apply xN_ | apply xD_ | apply xA_)); exact BK311.out))⟩; have n14_ : Aside0 (Below w.heap.size w w120) := ⟨(by rw [hw]; exact (by repeat (first | (with_reducible first | exact HB.out | apply yA_ | apply yN_ | apply yD_ | refine yS_ ?_ GE269.out | refine yS_ ?_ GE270.out | refine yS_ ?_ GE280.out | refine yS_ ?_ GE288.out | refine yS_ ?_ GE303.out | refine yS_ ?_ GE311.out) | exact HB.out)))⟩; clear hw; clear HO_281000; clear HO_281001; clear HO_289000; clear HO_289001; clear HO298; clear HO301; clear HO306; clear HO309; clear BK269; clear BK270; clear BK280; clear BK288; clear BK303; clear BK311; clear HB; have HO_281000 := n0_; have HO_281001 := n1_; have HO_289000 := n2_; have HO_289001 := n3_; have HO298 := n4_; have HO301 := n5_; have HO306 := n6_; have HO309 := n7_; have BK269 := n8_; have BK270 := n9_; have BK280 := n10_; have BK288 := n11_; have BK303 := n12_; have BK311 := n13_; have HB := n14_; clear n0_ n1_ n2_ n3_ n4_ n5_ n6_ n7_ n8_ n9_ n10_ n11_ n12_ n13_ n14_; have hcz121_0 : w120.cell? ⟨gb269, 0, none⟩ = some (.slice A0_0 l0_0.length c0_0) := (xC_ BK269.out 0).trans rfl; have hcz121_1 : w120.cell? ⟨gb269, 1, none⟩ = some (.slice A0_1 l0_1.length c0_1) := (xC_ BK269.out 1).trans rfl; have hfz121_0 := xF_ BK269.out 0; have hfz121_1 := xF_ BK269.out 1) | ((with_reducible refine gate_callee (f := 20) rfl ?_); refine goesL_ (some 113) rfl rfl Try.func20 (by kernel_rfl) rfl #[.agg #[.slice A0_0 l0_0.length c0_0, .slice A0_1 l0_1.length c0_1], .slice A2 l2.length c2] rfl (by (try simp only [List.map_toArray, List.map_cons, List.map_nil]); first | done | rfl) ?_; (with_reducible refine (disk_Crash.calls (fun k_ => k_ < w.heap.size) _ _ l0_0 (fun k_ => k_ < w.heap.size) _ _ l0_1 _ _ l2 t312 t315 t318 _ ?side1 ?side2 ?side3 ?side4 A78.out).mono ?_); (case side1 => exact Kd.V_mk HC0_0.out (Kd.F_below (Kd.C_F Kd.heap_string HR0_0.out) (by repeat (first | (with_reducible first | exact HB.out | apply yA_ | apply yN_ | apply yD_ | refine yS_ ?_ GE269.out | refine yS_ ?_ GE270.out | refine yS_ ?_ GE280.out | refine yS_ ?_ GE288.out | refine yS_ ?_ GE303.out | refine yS_ ?_ GE311.out) | exact HB.out)))); (case side2 => exact Kd.V_mk HC0_1.out (Kd.F_below (Kd.C_F k27_heap HR0_1.out) (by repeat (first | (with_reducible first | exact HB.out | apply yA_ | apply yN_ | apply yD_ | refine yS_ ?_ GE269.out | refine yS_ ?_ GE270.out | refine yS_ ?_ GE280.out | refine yS_ ?_ GE288.out | refine yS_ ?_ GE303.out | refine yS_ ?_ GE311.out) | exact HB.out)))); (case side3 => repeat (first | exact (Kd.C_below HR2.out HB.out) | (with_reducible refine Kd.C_alloc ?_ _) | (with_reducible refine Kd.C_drewN ?_ _) | (with_reducible refine Kd.C_drew ?_))); (case side4 => exact HC2.out); rintro e w122 ⟨v313, v316, rfl, ho0, ho1, hb⟩; refine ⟨_, rfl, ?_⟩; have hz_ := zq HB (by repeat (first | (with_reducible first | exact Below.refl _ _ | apply yA_ | apply yN_ | apply yD_) | exact Below.refl _ _)) hb; replace hb := below_step hz_ hb; replace HO_281000 := zV HO_281000 hb; replace HO_281001 := zV HO_281001 hb; replace HO_289000 := zV HO_289000 hb; replace HO_289001 := zV HO_289001 hb; replace HO298 := zV HO298 hb; replace HO301 := zV HO301 hb; replace HO306 := zV HO306 hb; replace HO309 := zV HO309 hb; have HO314 := aM_ (Kd.V_lower (hV_ (ok' := fun k_ => k_ ≠ gb269 ∧ k_ ≠ gb270 ∧ k_ ≠ gb280 ∧ k_ ≠ gb288 ∧ k_ ≠ gb303 ∧ k_ ≠ gb311) ho0 (fun k_ hk_ => ⟨Or.elim hk_ (fun hs_ => Or.elim hs_ (zg GW269) (zg GW269)) (zf BK269 hz_ k_), Or.elim hk_ (fun hs_ => Or.elim hs_ (zg GW270) (zg GW270)) (zf BK270 hz_ k_), Or.elim hk_ (fun hs_ => Or.elim hs_ (zg GW280) (zg GW280)) (zf BK280 hz_ k_), Or.elim hk_ (fun hs_ => Or.elim hs_ (zg GW288) (zg GW288)) (zf BK288 hz_ k_), Or.elim hk_ (fun hs_ => Or.elim hs_ (zg GW303) (zg GW303)) (zf BK303 hz_ k_), Or.elim hk_ (fun hs_ => Or.elim hs_ (zg GW311) (zg GW311)) (zf BK311 hz_ k_)⟩)) (zs HB hz_)); have HO317 := aM_ (Kd.V_lower (hV_ (ok' := fun k_ => k_ ≠ gb269 ∧ k_ ≠ gb270 ∧ k_ ≠ gb280 ∧ k_ ≠ gb288 ∧ k_ ≠ gb303 ∧ k_ ≠ gb311) ho1 (fun k_ hk_ => ⟨Or.elim hk_ (fun hs_ => Or.elim hs_ (zg GW269) (zg GW269)) (zf BK269 hz_ k_), Or.elim hk_ (fun hs_ => Or.elim hs_ (zg GW270) (zg GW270)) (zf BK270 hz_ k_), Or.elim hk_ (fun hs_ => Or.elim hs_ (zg GW280) (zg GW280)) (zf BK280 hz_ k_), Or.elim hk_ (fun hs_ => Or.elim hs_ (zg GW288) (zg GW288)) (zf BK288 hz_ k_), Or.elim hk_ (fun hs_ => Or.elim hs_ (zg GW303) (zg GW303)) (zf BK303 hz_ k_), Or.elim hk_ (fun hs_ => Or.elim hs_ (zg GW311) (zg GW311)) (zf BK311 hz_ k_)⟩)) (zs HB hz_)); replace BK269 := zB BK269 hb; replace BK270 := zB BK270 hb; replace BK280 := zB BK280 hb; replace BK288 := zB BK288 hb; replace BK303 := zB BK303 hb; replace BK311 := zB BK311 hb; replace HB := zH HB hb; clear hz_; (try clear hb); (try clear ho0); (try clear ho1)) | ((with_reducible refine gate_dst (N := 19) rfl ?_); (try (refine gate_guard (by rfl) ?_; dsimp only)); refine box_event ?hg (N := 19) ?hd (cs := #[.slice none 0 0, .slice none 0 0]) (t := 25) ?hr ?_; (case hd => rfl); (case hg => rfl); (case hr => first | (go_simp; done) | (go_simp; rfl)); intro gb319 hg w123 hbox hb; have hz_ := zq HB (by repeat (first | (with_reducible first | exact Below.refl _ _ | apply yA_ | apply yN_ | apply yD_) | exact Below.refl _ _)) hb; replace hb := below_step hz_ hb; replace HO_281000 := zE HO_281000 hz_ hg hb; replace HO_281001 := zE HO_281001 hz_ hg hb; replace HO_289000 := zE HO_289000 hz_ hg hb; replace HO_289001 := zE HO_289001 hz_ hg hb; replace HO298 := zE HO298 hz_ hg hb; replace HO301 := zE HO301 hz_ hg hb; replace HO306 := zE HO306 hz_ hg hb; replace HO309 := zE HO309 hz_ hg hb; replace HO314 := zE HO314 hz_ hg hb; replace HO317 := zE HO317 hz_ hg hb; have BK319 := aM_ hbox; have GW319 := zG HB hz_ hg; have GE319 := zG HB hz_ hg; have NB269_319 := zN BK269 hz_ hg; have NB319_269 := zM BK269 hz_ hg; have NB270_319 := zN BK270 hz_ hg; have NB319_270 := zM BK270 hz_ hg; have NB280_319 := zN BK280 hz_ hg; have NB319_280 := zM BK280 hz_ hg; have NB288_319 := zN BK288 hz_ hg; have NB319_288 := zM BK288 hz_ hg; have NB303_319 := zN BK303 hz_ hg; have NB319_303 := zM BK303 hz_ hg; have NB311_319 := zN BK311 hz_ hg; have NB319_311 := zM BK311 hz_ hg; replace BK269 := zB BK269 hb; replace BK270 := zB BK270 hb; replace BK280 := zB BK280 hb; replace BK288 := zB BK288 hb; replace BK303 := zB BK303 hb; replace BK311 := zB BK311 hb; replace HB := zH HB hb; clear hz_; clear hb hbox hg; obtain ⟨Ao124, co124, eo124⟩ := Kd.V_slice HO314.out; subst eo124; have hnb125 := NB319_269.out; have hnc125 := NB269_319.out; have hnb126 := NB319_270.out; have hnc126 := NB270_319.out; have hnb127 := NB319_280.out; have hnc127 := NB280_319.out; have hnb128 := NB319_288.out; have hnc128 := NB288_319.out; have hnb129 := NB319_303.out; have hnc129 := NB303_319.out; have hnb130 := NB319_311.out; have hnc130 := NB311_319.out; have hcz131_0 : w123.cell? ⟨gb319, 0, none⟩ = some (.slice none 0 0) := (xC_ BK319.out 0).trans rfl; have hcz131_1 : w123.cell? ⟨gb319, 1, none⟩ = some (.slice none 0 0) := (xC_ BK319.out 1).trans rfl; have hfz131_0 := xF_ BK319.out 0; have hfz131_1 := xF_ BK319.out 1; obtain ⟨Ao132, co132, eo132⟩ := Kd.V_slice HO317.out; subst eo132) | ((with_reducible refine gate_store (t := 25) (p := 19) rfl ?_); refine store_event (t := 25) (p := 19) (v := ?vo_w133) (w1 := ((w123.setCell ⟨gb319, 0, none⟩ (.slice Ao124 t312.length co124)).setCell ⟨gb319, 1, none⟩ (.slice Ao132 t315.length co132))) ?hg ?ho ?hn ?hr ?_; (case ho => rfl); (case hg => rfl); (case hn => rfl); (case hr => first | (go_simp; done) | (go_simp; rfl)); intro w133 hw; have n0_ : Aside0 (Kd.V Kd.string 9 w133 w.heap.size (fun k_ => k_ ≠ gb269 ∧ k_ ≠ gb270 ∧ k_ ≠ gb280 ∧ k_ ≠ gb288 ∧ k_ ≠ gb303 ∧ k_ ≠ gb311 ∧ k_ ≠ gb319) (.slice Ao34 t273.length co34) t273) := ⟨(by rw [hw]; exact (by (with_reducible repeat (first | apply vA_ | apply vN_ | apply vD_)); exact hV_ (fV_ (p := ⟨gb319, 1, none⟩) (fV_ (p := ⟨gb319, 0, none⟩) (hV_ HO_281000.out (fun k_ hk => (⟨hk, hk.2⟩ : _ ∧ k_ ≠ gb319))) (fun _ hk => hk.2) (.slice Ao124 t312.length co124)) (fun _ hk => hk.2) (.slice Ao132 t315.length co132)) (fun _ hk => ⟨hk.1.1.1, ⟨hk.1.1.2.1, ⟨hk.1.1.2.2.1, ⟨hk.1.1.2.2.2.1, ⟨hk.1.1.2.2.2.2.1, ⟨hk.1.1.2.2.2.2.2, hk.1.2⟩⟩⟩⟩⟩⟩)))⟩; have n1_ : Aside0 (Kd.V k27 27 w133 w.heap.size (fun k_ => k_ ≠ gb269 ∧ k_ ≠ gb270 ∧ k_ ≠ gb280 ∧ k_ ≠ gb288 ∧ k_ ≠ gb303 ∧ k_ ≠ gb311 ∧ k_ ≠ gb319) (.slice Ao38 t276.length co38) t276) := ⟨(by rw [hw]; exact (by (with_reducible repeat (first | apply vA_ | apply vN_ | apply vD_)); exact hV_ (fV_ (p := ⟨gb319, 1, none⟩) (fV_ (p := ⟨gb319, 0, none⟩) (hV_ HO_281001.out (fun k_ hk => (⟨hk, hk.2⟩ : _ ∧ k_ ≠ gb319))) (fun _ hk => hk.2) (.slice Ao124 t312.length co124)) (fun _ hk => hk.2) (.slice Ao132 t315.length co132)) (fun _ hk => ⟨hk.1.1.1, ⟨hk.1.1.2.1, ⟨hk.1.1.2.2.1, ⟨hk.1.1.2.2.2.1, ⟨hk.1.1.2.2.2.2.1, ⟨hk.1.1.2.2.2.2.2, hk.1.2⟩⟩⟩⟩⟩⟩)))⟩; have n2_ : Aside0 (Kd.V Kd.string 9 w133 w.heap.size (fun k_ => k_ ≠ gb269 ∧ k_ ≠ gb270 ∧ k_ ≠ gb280 ∧ k_ ≠ gb288 ∧ k_ ≠ gb303 ∧ k_ ≠ gb311 ∧ k_ ≠ gb319) (.slice Ao44 t281.length co44) t281) := ⟨(by rw [hw]; exact (by (with_reducible repeat (first | apply vA_ | apply vN_ | apply vD_)); exact hV_ (fV_ (p := ⟨gb319, 1, none⟩) (fV_ (p := ⟨gb319, 0, none⟩) (hV_ HO_289000.out (fun k_ hk => (⟨hk, hk.2⟩ : _ ∧ k_ ≠ gb319))) (fun _ hk => hk.2) (.slice Ao124 t312.length co124)) (fun _ hk => hk.2) (.slice Ao132 t315.length co132)) (fun _ hk => ⟨hk.1.1.1, ⟨hk.1.1.2.1, ⟨hk.1.1.2.2.1, ⟨hk.1.1.2.2.2.1, ⟨hk.1.1.2.2.2.2.1, ⟨hk.1.1.2.2.2.2.2, hk.1.2⟩⟩⟩⟩⟩⟩)))⟩; have n3_ : Aside0 (Kd.V k27 27 w133 w.heap.size (fun k_ => k_ ≠ gb269 ∧ k_ ≠ gb270 ∧ k_ ≠ gb280 ∧ k_ ≠ gb288 ∧ k_ ≠ gb303 ∧ k_ ≠ gb311 ∧ k_ ≠ gb319) (.slice Ao49 t284.length co49) t284) := ⟨(by rw [hw]; exact (by (with_reducible repeat (first | apply vA_ | apply vN_ | apply vD_)); exact hV_ (fV_ (p := ⟨gb319, 1, none⟩) (fV_ (p := ⟨gb319, 0, none⟩) (hV_ HO_289001.out (fun k_ hk => (⟨hk, hk.2⟩ : _ ∧ k_ ≠ gb319))) (fun _ hk => hk.2) (.slice Ao124 t312.length co124)) (fun _ hk => hk.2) (.slice Ao132 t315.length co132)) (fun _ hk => ⟨hk.1.1.1, ⟨hk.1.1.2.1, ⟨hk.1.1.2.2.1, ⟨hk.1.1.2.2.2.1, ⟨hk.1.1.2.2.2.2.1, ⟨hk.1.1.2.2.2.2.2, hk.1.2⟩⟩⟩⟩⟩⟩)))⟩; have n4_ : Aside0 (Kd.V Kd.string 9 w133 w.heap.size (fun k_ => k_ ≠ gb269 ∧ k_ ≠ gb270 ∧ k_ ≠ gb280 ∧ k_ ≠ gb288 ∧ k_ ≠ gb303 ∧ k_ ≠ gb311 ∧ k_ ≠ gb319) (.slice Ao101 t296.length co101) t296) := ⟨(by rw [hw]; exact (by (with_reducible repeat (first | apply vA_ | apply vN_ | apply vD_)); exact hV_ (fV_ (p := ⟨gb319, 1, none⟩) (fV_ (p := ⟨gb319, 0, none⟩) (hV_ HO298.out (fun k_ hk => (⟨hk, hk.2⟩ : _ ∧ k_ ≠ gb319))) (fun _ hk => hk.2) (.slice Ao124 t312.length co124)) (fun _ hk => hk.2) (.slice Ao132 t315.length co132)) (fun _ hk => ⟨hk.1.1.1, ⟨hk.1.1.2.1, ⟨hk.1.1.2.2.1, ⟨hk.1.1.2.2.2.1, ⟨hk.1.1.2.2.2.2.1, ⟨hk.1.1.2.2.2.2.2, hk.1.2⟩⟩⟩⟩⟩⟩)))⟩; have n5_ : Aside0 (Kd.V k27 27 w133 w.heap.size (fun k_ => k_ ≠ gb269 ∧ k_ ≠ gb270 ∧ k_ ≠ gb280 ∧ k_ ≠ gb288 ∧ k_ ≠ gb303 ∧ k_ ≠ gb311 ∧ k_ ≠ gb319) (.slice Ao107 t299.length co107) t299) := ⟨(by rw [hw]; exact (by (with_reducible repeat (first | apply vA_ | apply vN_ | apply vD_)); exact hV_ (fV_ (p := ⟨gb319, 1, none⟩) (fV_ (p := ⟨gb319, 0, none⟩) (hV_ HO301.out (fun k_ hk => (⟨hk, hk.2⟩ : _ ∧ k_ ≠ gb319))) (fun _ hk => hk.2) (.slice Ao124 t312.length co124)) (fun _ hk => hk.2) (.slice Ao132 t315.length co132)) (fun _ hk => ⟨hk.1.1.1, ⟨hk.1.1.2.1, ⟨hk.1.1.2.2.1, ⟨hk.1.1.2.2.2.1, ⟨hk.1.1.2.2.2.2.1, ⟨hk.1.1.2.2.2.2.2, hk.1.2⟩⟩⟩⟩⟩⟩)))⟩; have n6_ : Aside0 (Kd.V Kd.string 9 w133 w.heap.size (fun k_ => k_ ≠ gb269 ∧ k_ ≠ gb270 ∧ k_ ≠ gb280 ∧ k_ ≠ gb288 ∧ k_ ≠ gb303 ∧ k_ ≠ gb311 ∧ k_ ≠ gb319) (.slice Ao112 t304.length co112) t304) := ⟨(by rw [hw]; exact (by (with_reducible repeat (first | apply vA_ | apply vN_ | apply vD_)); exact hV_ (fV_ (p := ⟨gb319, 1, none⟩) (fV_ (p := ⟨gb319, 0, none⟩) (hV_ HO306.out (fun k_ hk => (⟨hk, hk.2⟩ : _ ∧ k_ ≠ gb319))) (fun _ hk => hk.2) (.slice Ao124 t312.length co124)) (fun _ hk => hk.2) (.slice Ao132 t315.length co132)) (fun _ hk => ⟨hk.1.1.1, ⟨hk.1.1.2.1, ⟨hk.1.1.2.2.1, ⟨hk.1.1.2.2.2.1, ⟨hk.1.1.2.2.2.2.1, ⟨hk.1.1.2.2.2.2.2, hk.1.2⟩⟩⟩⟩⟩⟩)))⟩; have n7_ : Aside0 (Kd.V k27 27 w133 w.heap.size (fun k_ => k_ ≠ gb269 ∧ k_ ≠ gb270 ∧ k_ ≠ gb280 ∧ k_ ≠ gb288 ∧ k_ ≠ gb303 ∧ k_ ≠ gb311 ∧ k_ ≠ gb319) (.slice Ao119 t307.length co119) t307) := ⟨(by rw [hw]; exact (by (with_reducible repeat (first | apply vA_ | apply vN_ | apply vD_)); exact hV_ (fV_ (p := ⟨gb319, 1, none⟩) (fV_ (p := ⟨gb319, 0, none⟩) (hV_ HO309.out (fun k_ hk => (⟨hk, hk.2⟩ : _ ∧ k_ ≠ gb319))) (fun _ hk => hk.2) (.slice Ao124 t312.length co124)) (fun _ hk => hk.2) (.slice Ao132 t315.length co132)) (fun _ hk => ⟨hk.1.1.1, ⟨hk.1.1.2.1, ⟨hk.1.1.2.2.1, ⟨hk.1.1.2.2.2.1, ⟨hk.1.1.2.2.2.2.1, ⟨hk.1.1.2.2.2.2.2, hk.1.2⟩⟩⟩⟩⟩⟩)))⟩; have n8_ : Aside0 (Kd.V Kd.string 9 w133 w.heap.size (fun k_ => k_ ≠ gb269 ∧ k_ ≠ gb270 ∧ k_ ≠ gb280 ∧ k_ ≠ gb288 ∧ k_ ≠ gb303 ∧ k_ ≠ gb311 ∧ k_ ≠ gb319) (.slice Ao124 t312.length co124) t312) := ⟨(by rw [hw]; exact (by (with_reducible repeat (first | apply vA_ | apply vN_ | apply vD_)); exact hV_ (fV_ (p := ⟨gb319, 1, none⟩) (fV_ (p := ⟨gb319, 0, none⟩) (hV_ HO314.out (fun k_ hk => (⟨hk, hk.2⟩ : _ ∧ k_ ≠ gb319))) (fun _ hk => hk.2) (.slice Ao124 t312.length co124)) (fun _ hk => hk.2) (.slice Ao132 t315.length co132)) (fun _ hk => ⟨hk.1.1.1, ⟨hk.1.1.2.1, ⟨hk.1.1.2.2.1, ⟨hk.1.1.2.2.2.1, ⟨hk.1.1.2.2.2.2.1, ⟨hk.1.1.2.2.2.2.2, hk.1.2⟩⟩⟩⟩⟩⟩)))⟩; have n9_ : Aside0 (Kd.V k27 27 w133 w.heap.size (fun k_ => k_ ≠ gb269 ∧ k_ ≠ gb270 ∧ k_ ≠ gb280 ∧ k_ ≠ gb288 ∧ k_ ≠ gb303 ∧ k_ ≠ gb311 ∧ k_ ≠ gb319) (.slice Ao132 t315.length co132) t315) := ⟨(by rw [hw]; exact (by (with_reducible repeat (first | apply vA_ | apply vN_ | apply vD_)); exact hV_ (fV_ (p := ⟨gb319, 1, none⟩) (fV_ (p := ⟨gb319, 0, none⟩) (hV_ HO317.out (fun k_ hk => (⟨hk, hk.2⟩ : _ ∧ k_ ≠ gb319))) (fun _ hk => hk.2) (.slice Ao124 t312.length co124)) (fun _ hk => hk.2) (.slice Ao132 t315.length co132)) (fun _ hk => ⟨hk.1.1.1, ⟨hk.1.1.2.1, ⟨hk.1.1.2.2.1, ⟨hk.1.1.2.2.2.1, ⟨hk.1.1.2.2.2.2.1, ⟨hk.1.1.2.2.2.2.2, hk.1.2⟩⟩⟩⟩⟩⟩)))⟩; have n10_ : Aside0 (w133.heap[gb269]? = some (.cells #[.slice A0_0 l0_0.length c0_0, .slice A0_1 l0_1.length c0_1] 25 (0, 0))) := ⟨(by rw [hw]; exact (by (with_reducible repeat (first | apply xN_ | apply xD_ | apply xA_)); refine xR_ ?_ NB269_319.out _; refine xR_ ?_ NB269_319.out _; (with_reducible repeat (first | apply xN_ | apply xD_ | apply xA_)); exact BK269.out))⟩; have n11_ : Aside0 (w133.heap[gb270]? = some (.cells #[.int .i64 a1_0, .string a1_1] 27 (0, 0))) := ⟨(by rw [hw]; exact (by (with_reducible repeat (first | apply xN_ | apply xD_ | apply xA_)); refine xR_ ?_ NB270_319.out _; refine xR_ ?_ NB270_319.out _; (with_reducible repeat (first | apply xN_ | apply xD_ | apply xA_)); exact BK270.out))⟩; have n12_ : Aside0 (w133.heap[gb280]? = some (.cells #[.slice Ao34 t273.length co34, .slice Ao38 t276.length co38] 25 (0, 0))) := ⟨(by rw [hw]; exact (by (with_reducible repeat (first | apply xN_ | apply xD_ | apply xA_)); refine xR_ ?_ NB280_319.out _; refine xR_ ?_ NB280_319.out _; (with_reducible repeat (first | apply xN_ | apply xD_ | apply xA_)); exact BK280.out))⟩; have n13_ : Aside0 (w133.heap[gb288]? = some (.cells #[.slice Ao44 t281.length co44, .slice Ao49 t284.length co49] 25 (0, 0))) := ⟨(by rw [hw]; exact (by (with_reducible repeat (first | apply xN_ | apply xD_ | apply xA_)); refine xR_ ?_ NB288_319.out _; refine xR_ ?_ NB288_319.out _; (with_reducible repeat (first | apply xN_ | apply xD_ | apply xA_)); exact BK288.out))⟩; have n14_ : Aside0 (w133.heap[gb303]? = some (.cells #[.slice Ao101 t296.length co101, .slice Ao107 t299.length co107] 25 (0, 0))) := ⟨(by rw [hw]; exact (by (with_reducible repeat (first | apply xN_ | apply xD_ | apply xA_)); refine xR_ ?_ NB303_319.out _; refine xR_ ?_ NB303_319.out _; (with_reducible repeat (first | apply xN_ | apply xD_ | apply xA_)); exact BK303.out))⟩; have n15_ : Aside0 (w133.heap[gb311]? = some (.cells #[.slice Ao112 t304.length co112, .slice Ao119 t307.length co119] 25 (0, 0))) := ⟨(by rw [hw]; exact (by (with_reducible repeat (first | apply xN_ | apply xD_ | apply xA_)); refine xR_ ?_ NB311_319.out _; refine xR_ ?_ NB311_319.out _; (with_reducible repeat (first | apply xN_ | apply xD_ | apply xA_)); exact BK311.out))⟩; have n16_ : Aside0 (w133.heap[gb319]? = some (.cells #[.slice Ao124 t312.length co124, .slice Ao132 t315.length co132] 25 (0, 0))) := ⟨(by rw [hw]; exact (by (with_reducible repeat (first | apply xN_ | apply xD_ | apply xA_)); refine blk_put (cs := #[.slice Ao124 t312.length co124, .slice none 0 0]) ?_ 1 _ rfl; refine blk_put (cs := #[.slice none 0 0, .slice none 0 0]) ?_ 0 _ rfl; (with_reducible repeat (first | apply xN_ | apply xD_ | apply xA_)); exact BK319.out))⟩; have n17_ : Aside0 (Below w.heap.size w w133) := ⟨(by rw [hw]; exact (by repeat (first | (with_reducible first | exact HB.out | apply yA_ | apply yN_ | apply yD_ | refine yS_ ?_ GE269.out | refine yS_ ?_ GE270.out | refine yS_ ?_ GE280.out | refine yS_ ?_ GE288.out | refine yS_ ?_ GE303.out | refine yS_ ?_ GE311.out | refine yS_ ?_ GE319.out) | exact HB.out)))⟩; clear hw; clear HO_281000; clear HO_281001; clear HO_289000; clear HO_289001; clear HO298; clear HO301; clear HO306; clear HO309; clear HO314; clear HO317; clear BK269; clear BK270; clear BK280; clear BK288; clear BK303; clear BK311; clear BK319; clear HB; have HO_281000 := n0_; have HO_281001 := n1_; have HO_289000 := n2_; have HO_289001 := n3_; have HO298 := n4_; have HO301 := n5_; have HO306 := n6_; have HO309 := n7_; have HO314 := n8_; have HO317 := n9_; have BK269 := n10_; have BK270 := n11_; have BK280 := n12_; have BK288 := n13_; have BK303 := n14_; have BK311 := n15_; have BK319 := n16_; have HB := n17_; clear n0_ n1_ n2_ n3_ n4_ n5_ n6_ n7_ n8_ n9_ n10_ n11_ n12_ n13_ n14_ n15_ n16_ n17_; have hcz134_0 : w133.cell? ⟨gb269, 0, none⟩ = some (.slice A0_0 l0_0.length c0_0) := (xC_ BK269.out 0).trans rfl; have hcz134_1 : w133.cell? ⟨gb269, 1, none⟩ = some (.slice A0_1 l0_1.length c0_1) := (xC_ BK269.out 1).trans rfl; have hfz134_0 := xF_ BK269.out 0; have hfz134_1 := xF_ BK269.out 1) | ((with_reducible refine gate_callee (f := 21) rfl ?_); refine goesL_ (some 119) rfl rfl Try.func21 (by kernel_rfl) rfl #[.agg #[.slice A0_0 l0_0.length c0_0, .slice A0_1 l0_1.length c0_1], .slice A2 l2.length c2] rfl (by (try simp only [List.map_toArray, List.map_cons, List.map_nil]); first | done | rfl) ?_; (with_reducible refine (armadaref01_Crash.calls kj27 (fun k_ => k_ < w.heap.size) _ _ l0_0 (fun k_ => k_ < w.heap.size) _ _ l0_1 _ _ l2 t320 t323 t326 _ ?side1 ?side2 ?side3 ?side4 A79.out).mono ?_); (case side1 => exact Kd.V_mk HC0_0.out (Kd.F_below (Kd.C_F Kd.heap_string HR0_0.out) (by repeat (first | (with_reducible first | exact HB.out | apply yA_ | apply yN_ | apply yD_ | refine yS_ ?_ GE269.out | refine yS_ ?_ GE270.out | refine yS_ ?_ GE280.out | refine yS_ ?_ GE288.out | refine yS_ ?_ GE303.out | refine yS_ ?_ GE311.out | refine yS_ ?_ GE319.out) | exact HB.out)))); (case side2 => exact Kd.V_mk HC0_1.out (Kd.F_below (Kd.C_F k27_heap HR0_1.out) (by repeat (first | (with_reducible first | exact HB.out | apply yA_ | apply yN_ | apply yD_ | refine yS_ ?_ GE269.out | refine yS_ ?_ GE270.out | refine yS_ ?_ GE280.out | refine yS_ ?_ GE288.out | refine yS_ ?_ GE303.out | refine yS_ ?_ GE311.out | refine yS_ ?_ GE319.out) | exact HB.out)))); (case side3 => repeat (first | exact (Kd.C_below HR2.out HB.out) | (with_reducible refine Kd.C_alloc ?_ _) | (with_reducible refine Kd.C_drewN ?_ _) | (with_reducible refine Kd.C_drew ?_))); (case side4 => exact HC2.out); rintro e w135 ⟨v321, v324, rfl, ho0, ho1, hb⟩; refine ⟨_, rfl, ?_⟩; have hz_ := zq HB (by repeat (first | (with_reducible first | exact Below.refl _ _ | apply yA_ | apply yN_ | apply yD_) | exact Below.refl _ _)) hb; replace hb := below_step hz_ hb; replace HO_281000 := zV HO_281000 hb; replace HO_281001 := zV HO_281001 hb; replace HO_289000 := zV HO_289000 hb; replace HO_289001 := zV HO_289001 hb; replace HO298 := zV HO298 hb; replace HO301 := zV HO301 hb; replace HO306 := zV HO306 hb; replace HO309 := zV HO309 hb; replace HO314 := zV HO314 hb; replace HO317 := zV HO317 hb; have HO322 := aM_ (Kd.V_lower (hV_ (ok' := fun k_ => k_ ≠ gb269 ∧ k_ ≠ gb270 ∧ k_ ≠ gb280 ∧ k_ ≠ gb288 ∧ k_ ≠ gb303 ∧ k_ ≠ gb311 ∧ k_ ≠ gb319) ho0 (fun k_ hk_ => ⟨Or.elim hk_ (fun hs_ => Or.elim hs_ (zg GW269) (zg GW269)) (zf BK269 hz_ k_), Or.elim hk_ (fun hs_ => Or.elim hs_ (zg GW270) (zg GW270)) (zf BK270 hz_ k_), Or.elim hk_ (fun hs_ => Or.elim hs_ (zg GW280) (zg GW280)) (zf BK280 hz_ k_), Or.elim hk_ (fun hs_ => Or.elim hs_ (zg GW288) (zg GW288)) (zf BK288 hz_ k_), Or.elim hk_ (fun hs_ => Or.elim hs_ (zg GW303) (zg GW303)) (zf BK303 hz_ k_), Or.elim hk_ (fun hs_ => Or.elim hs_ (zg GW311) (zg GW311)) (zf BK311 hz_ k_), Or.elim hk_ (fun hs_ => Or.elim hs_ (zg GW319) (zg GW319)) (zf BK319 hz_ k_)⟩)) (zs HB hz_)); have HO325 := aM_ (Kd.V_lower (hV_ (ok' := fun k_ => k_ ≠ gb269 ∧ k_ ≠ gb270 ∧ k_ ≠ gb280 ∧ k_ ≠ gb288 ∧ k_ ≠ gb303 ∧ k_ ≠ gb311 ∧ k_ ≠ gb319) ho1 (fun k_ hk_ => ⟨Or.elim hk_ (fun hs_ => Or.elim hs_ (zg GW269) (zg GW269)) (zf BK269 hz_ k_), Or.elim hk_ (fun hs_ => Or.elim hs_ (zg GW270) (zg GW270)) (zf BK270 hz_ k_), Or.elim hk_ (fun hs_ => Or.elim hs_ (zg GW280) (zg GW280)) (zf BK280 hz_ k_), Or.elim hk_ (fun hs_ => Or.elim hs_ (zg GW288) (zg GW288)) (zf BK288 hz_ k_), Or.elim hk_ (fun hs_ => Or.elim hs_ (zg GW303) (zg GW303)) (zf BK303 hz_ k_), Or.elim hk_ (fun hs_ => Or.elim hs_ (zg GW311) (zg GW311)) (zf BK311 hz_ k_), Or.elim hk_ (fun hs_ => Or.elim hs_ (zg GW319) (zg GW319)) (zf BK319 hz_ k_)⟩)) (zs HB hz_)); replace BK269 := zB BK269 hb; replace BK270 := zB BK270 hb; replace BK280 := zB BK280 hb; replace BK288 := zB BK288 hb; replace BK303 := zB BK303 hb; replace BK311 := zB BK311 hb; replace BK319 := zB BK319 hb; replace HB := zH HB hb; clear hz_; (try clear hb); (try clear ho0); (try clear ho1)) | ((with_reducible refine gate_dst (N := 21) rfl ?_); (try (refine gate_guard (by rfl) ?_; dsimp only)); refine box_event ?hg (N := 21) ?hd (cs := #[.slice none 0 0, .slice none 0 0]) (t := 25) ?hr ?_; (case hd => rfl); (case hg => rfl); (case hr => first | (go_simp; done) | (go_simp; rfl)); intro gb327 hg w136 hbox hb; have hz_ := zq HB (by repeat (first | (with_reducible first | exact Below.refl _ _ | apply yA_ | apply yN_ | apply yD_) | exact Below.refl _ _)) hb; replace hb := below_step hz_ hb; replace HO_281000 := zE HO_281000 hz_ hg hb; replace HO_281001 := zE HO_281001 hz_ hg hb; replace HO_289000 := zE HO_289000 hz_ hg hb; replace HO_289001 := zE HO_289001 hz_ hg hb; replace HO298 := zE HO298 hz_ hg hb; replace HO301 := zE HO301 hz_ hg hb; replace HO306 := zE HO306 hz_ hg hb; replace HO309 := zE HO309 hz_ hg hb; replace HO314 := zE HO314 hz_ hg hb; replace HO317 := zE HO317 hz_ hg hb; replace HO322 := zE HO322 hz_ hg hb; replace HO325 := zE HO325 hz_ hg hb; have BK327 := aM_ hbox; have GW327 := zG HB hz_ hg; have GE327 := zG HB hz_ hg; have NB269_327 := zN BK269 hz_ hg; have NB327_269 := zM BK269 hz_ hg; have NB270_327 := zN BK270 hz_ hg; have NB327_270 := zM BK270 hz_ hg; have NB280_327 := zN BK280 hz_ hg; have NB327_280 := zM BK280 hz_ hg; have NB288_327 := zN BK288 hz_ hg; have NB327_288 := zM BK288 hz_ hg; have NB303_327 := zN BK303 hz_ hg; have NB327_303 := zM BK303 hz_ hg; have NB311_327 := zN BK311 hz_ hg; have NB327_311 := zM BK311 hz_ hg; have NB319_327 := zN BK319 hz_ hg; have NB327_319 := zM BK319 hz_ hg; replace BK269 := zB BK269 hb; replace BK270 := zB BK270 hb; replace BK280 := zB BK280 hb; replace BK288 := zB BK288 hb; replace BK303 := zB BK303 hb; replace BK311 := zB BK311 hb; replace BK319 := zB BK319 hb; replace HB := zH HB hb; clear hz_; clear hb hbox hg; obtain ⟨Ao137, co137, eo137⟩ := Kd.V_slice HO322.out; subst eo137; have hnb138 := NB327_269.out; have hnc138 := NB269_327.out; have hnb139 := NB327_270.out; have hnc139 := NB270_327.out; have hnb140 := NB327_280.out; have hnc140 := NB280_327.out; have hnb141 := NB327_288.out; have hnc141 := NB288_327.out; have hnb142 := NB327_303.out; have hnc142 := NB303_327.out; have hnb143 := NB327_311.out; have hnc143 := NB311_327.out; have hnb144 := NB327_319.out; have hnc144 := NB319_327.out; have hcz145_0 : w136.cell? ⟨gb327, 0, none⟩ = some (.slice none 0 0) := (xC_ BK327.out 0).trans rfl; have hcz145_1 : w136.cell? ⟨gb327, 1, none⟩ = some (.slice none 0 0) := (xC_ BK327.out 1).trans rfl; have hfz145_0 := xF_ BK327.out 0; have hfz145_1 := xF_ BK327.out 1; obtain ⟨Ao146, co146, eo146⟩ := Kd.V_slice HO325.out; subst eo146; have hnb147 := NB270_280.out; have hnc147 := NB280_270.out; have hnb148 := NB270_288.out; have hnc148 := NB288_270.out; have hcz149_0 : w136.cell? ⟨gb270, 0, none⟩ = some (.int .i64 a1_0) := (xC_ BK270.out 0).trans rfl; have hcz149_1 : w136.cell? ⟨gb270, 1, none⟩ = some (.string a1_1) := (xC_ BK270.out 1).trans rfl; have hfz149_0 := xF_ BK270.out 0; have hfz149_1 := xF_ BK270.out 1) | ((with_reducible refine gate_callee (f := 22) rfl ?_); refine goesL_ (some 125) rfl rfl Try.func22 (by kernel_rfl) rfl #[.int .i64 a1_0] rfl (by (try simp only [List.map_toArray, List.map_cons, List.map_nil]); first | done | rfl) ?_; (with_reducible refine (disk_New.calls a1_0 t328 t331 t334 _ A80.out).mono ?_); rintro e w150 ⟨v329, v332, rfl, ho0, ho1, hb⟩; refine ⟨_, rfl, ?_⟩; replace HO_281000 := aM_ (hV_ (Kd.V_told (Kd.V_told (Kd.V_old (by (with_reducible repeat (first | apply vA_ | apply vN_ | apply vD_)); exact (hV_ (fV_ (p := ⟨gb327, 1, none⟩) (fV_ (p := ⟨gb327, 0, none⟩) (hV_ HO_281000.out (fun k_ hk => (⟨hk, hk.2⟩ : _ ∧ k_ ≠ gb327))) (fun _ hk => hk.2) (.slice Ao137 t320.length co137)) (fun _ hk => hk.2) (.slice Ao146 t323.length co146)) (fun _ h_ => h_.1))) hb) (Kd.R_base ho0)) (Kd.R_base ho1)) (fun _ h_ => h_.1)); replace HO_281001 := aM_ (hV_ (Kd.V_told (Kd.V_told (Kd.V_old (by (with_reducible repeat (first | apply vA_ | apply vN_ | apply vD_)); exact (hV_ (fV_ (p := ⟨gb327, 1, none⟩) (fV_ (p := ⟨gb327, 0, none⟩) (hV_ HO_281001.out (fun k_ hk => (⟨hk, hk.2⟩ : _ ∧ k_ ≠ gb327))) (fun _ hk => hk.2) (.slice Ao137 t320.length co137)) (fun _ hk => hk.2) (.slice Ao146 t323.length co146)) (fun _ h_ => h_.1))) hb) (Kd.R_base ho0)) (Kd.R_base ho1)) (fun _ h_ => h_.1)); replace HO_289000 := aM_ (hV_ (Kd.V_told (Kd.V_told (Kd.V_old (by (with_reducible repeat (first | apply vA_ | apply vN_ | apply vD_)); exact (hV_ (fV_ (p := ⟨gb327, 1, none⟩) (fV_ (p := ⟨gb327, 0, none⟩) (hV_ HO_289000.out (fun k_ hk => (⟨hk, hk.2⟩ : _ ∧ k_ ≠ gb327))) (fun _ hk => hk.2) (.slice Ao137 t320.length co137)) (fun _ hk => hk.2) (.slice Ao146 t323.length co146)) (fun _ h_ => h_.1))) hb) (Kd.R_base ho0)) (Kd.R_base ho1)) (fun _ h_ => h_.1)); replace HO_289001 := aM_ (hV_ (Kd.V_told (Kd.V_told (Kd.V_old (by (with_reducible repeat (first | apply vA_ | apply vN_ | apply vD_)); exact (hV_ (fV_ (p := ⟨gb327, 1, none⟩) (fV_ (p := ⟨gb327, 0, none⟩) (hV_ HO_289001.out (fun k_ hk => (⟨hk, hk.2⟩ : _ ∧ k_ ≠ gb327))) (fun _ hk => hk.2) (.slice Ao137 t320.length co137)) (fun _ hk => hk.2) (.slice Ao146 t323.length co146)) (fun _ h_ => h_.1))) hb) (Kd.R_base ho0)) (Kd.R_base ho1)) (fun _ h_ => h_.1)); replace HO298 := aM_ (hV_ (Kd.V_told (Kd.V_told (Kd.V_old (by (with_reducible repeat (first | apply vA_ | apply vN_ | apply vD_)); exact (hV_ (fV_ (p := ⟨gb327, 1, none⟩) (fV_ (p := ⟨gb327, 0, none⟩) (hV_ HO298.out (fun k_ hk => (⟨hk, hk.2⟩ : _ ∧ k_ ≠ gb327))) (fun _ hk => hk.2) (.slice Ao137 t320.length co137)) (fun _ hk => hk.2) (.slice Ao146 t323.length co146)) (fun _ h_ => h_.1))) hb) (Kd.R_base ho0)) (Kd.R_base ho1)) (fun _ h_ => h_.1)); replace HO301 := aM_ (hV_ (Kd.V_told (Kd.V_told (Kd.V_old (by (with_reducible repeat (first | apply vA_ | apply vN_ | apply vD_)); exact (hV_ (fV_ (p := ⟨gb327, 1, none⟩) (fV_ (p := ⟨gb327, 0, none⟩) (hV_ HO301.out (fun k_ hk => (⟨hk, hk.2⟩ : _ ∧ k_ ≠ gb327))) (fun _ hk => hk.2) (.slice Ao137 t320.length co137)) (fun _ hk => hk.2) (.slice Ao146 t323.length co146)) (fun _ h_ => h_.1))) hb) (Kd.R_base ho0)) (Kd.R_base ho1)) (fun _ h_ => h_.1)); replace HO306 := aM_ (hV_ (Kd.V_told (Kd.V_told (Kd.V_old (by (with_reducible repeat (first | apply vA_ | apply vN_ | apply vD_)); exact (hV_ (fV_ (p := ⟨gb327, 1, none⟩) (fV_ (p := ⟨gb327, 0, none⟩) (hV_ HO306.out (fun k_ hk => (⟨hk, hk.2⟩ : _ ∧ k_ ≠ gb327))) (fun _ hk => hk.2) (.slice Ao137 t320.length co137)) (fun _ hk => hk.2) (.slice Ao146 t323.length co146)) (fun _ h_ => h_.1))) hb) (Kd.R_base ho0)) (Kd.R_base ho1)) (fun _ h_ => h_.1)); replace HO309 := aM_ (hV_ (Kd.V_told (Kd.V_told (Kd.V_old (by (with_reducible repeat (first | apply vA_ | apply vN_ | apply vD_)); exact (hV_ (fV_ (p := ⟨gb327, 1, none⟩) (fV_ (p := ⟨gb327, 0, none⟩) (hV_ HO309.out (fun k_ hk => (⟨hk, hk.2⟩ : _ ∧ k_ ≠ gb327))) (fun _ hk => hk.2) (.slice Ao137 t320.length co137)) (fun _ hk => hk.2) (.slice Ao146 t323.length co146)) (fun _ h_ => h_.1))) hb) (Kd.R_base ho0)) (Kd.R_base ho1)) (fun _ h_ => h_.1)); replace HO314 := aM_ (hV_ (Kd.V_told (Kd.V_told (Kd.V_old (by (with_reducible repeat (first | apply vA_ | apply vN_ | apply vD_)); exact (hV_ (fV_ (p := ⟨gb327, 1, none⟩) (fV_ (p := ⟨gb327, 0, none⟩) (hV_ HO314.out (fun k_ hk => (⟨hk, hk.2⟩ : _ ∧ k_ ≠ gb327))) (fun _ hk => hk.2) (.slice Ao137 t320.length co137)) (fun _ hk => hk.2) (.slice Ao146 t323.length co146)) (fun _ h_ => h_.1))) hb) (Kd.R_base ho0)) (Kd.R_base ho1)) (fun _ h_ => h_.1)); replace HO317 := aM_ (hV_ (Kd.V_told (Kd.V_told (Kd.V_old (by (with_reducible repeat (first | apply vA_ | apply vN_ | apply vD_)); exact (hV_ (fV_ (p := ⟨gb327, 1, none⟩) (fV_ (p := ⟨gb327, 0, none⟩) (hV_ HO317.out (fun k_ hk => (⟨hk, hk.2⟩ : _ ∧ k_ ≠ gb327))) (fun _ hk => hk.2) (.slice Ao137 t320.length co137)) (fun _ hk => hk.2) (.slice Ao146 t323.length co146)) (fun _ h_ => h_.1))) hb) (Kd.R_base ho0)) (Kd.R_base ho1)) (fun _ h_ => h_.1)); replace HO322 := aM_ (hV_ (Kd.V_told (Kd.V_told (Kd.V_old (by (with_reducible repeat (first | apply vA_ | apply vN_ | apply vD_)); exact (hV_ (fV_ (p := ⟨gb327, 1, none⟩) (fV_ (p := ⟨gb327, 0, none⟩) (hV_ HO322.out (fun k_ hk => (⟨hk, hk.2⟩ : _ ∧ k_ ≠ gb327))) (fun _ hk => hk.2) (.slice Ao137 t320.length co137)) (fun _ hk => hk.2) (.slice Ao146 t323.length co146)) (fun _ h_ => h_.1))) hb) (Kd.R_base ho0)) (Kd.R_base ho1)) (fun _ h_ => h_.1)); replace HO325 := aM_ (hV_ (Kd.V_told (Kd.V_told (Kd.V_old (by (with_reducible repeat (first | apply vA_ | apply vN_ | apply vD_)); exact (hV_ (fV_ (p := ⟨gb327, 1, none⟩) (fV_ (p := ⟨gb327, 0, none⟩) (hV_ HO325.out (fun k_ hk => (⟨hk, hk.2⟩ : _ ∧ k_ ≠ gb327))) (fun _ hk => hk.2) (.slice Ao137 t320.length co137)) (fun _ hk => hk.2) (.slice Ao146 t323.length co146)) (fun _ h_ => h_.1))) hb) (Kd.R_base ho0)) (Kd.R_base ho1)) (fun _ h_ => h_.1)); have HO330 := aM_ (Kd.R_lower ho0 (below_size (by repeat (first | (with_reducible first | exact HB.out | apply yA_ | apply yN_ | apply yD_ | refine yS_ ?_ GE269.out | refine yS_ ?_ GE270.out | refine yS_ ?_ GE280.out | refine yS_ ?_ GE288.out | refine yS_ ?_ GE303.out | refine yS_ ?_ GE311.out | refine yS_ ?_ GE319.out | refine yS_ ?_ GE327.out) | exact HB.out)))); have HO333 := aM_ (Kd.R_lower (Kd.R_newB ho1 (g := gb270) (o := .cells #[.int .i64 a1_0, .string a1_1] 27 (0, 0)) (by (with_reducible repeat (first | apply xN_ | apply xD_ | apply xA_)); refine xR_ ?_ NB270_327.out _; refine xR_ ?_ NB270_327.out _; (with_reducible repeat (first | apply xN_ | apply xD_ | apply xA_)); exact BK270.out)) (below_size (by repeat (first | (with_reducible first | exact HB.out | apply yA_ | apply yN_ | apply yD_ | refine yS_ ?_ GE269.out | refine yS_ ?_ GE270.out | refine yS_ ?_ GE280.out | refine yS_ ?_ GE288.out | refine yS_ ?_ GE303.out | refine yS_ ?_ GE311.out | refine yS_ ?_ GE319.out | refine yS_ ?_ GE327.out) | exact HB.out)))); replace BK269 := aM_ (blk_below (g := gb269) (o := .cells #[.slice A0_0 l0_0.length c0_0, .slice A0_1 l0_1.length c0_1] 25 (0, 0)) (by (with_reducible repeat (first | apply xN_ | apply xD_ | apply xA_)); refine xR_ ?_ NB269_327.out _; refine xR_ ?_ NB269_327.out _; (with_reducible repeat (first | apply xN_ | apply xD_ | apply xA_)); exact BK269.out) hb); replace BK280 := aM_ (blk_below (g := gb280) (o := .cells #[.slice Ao34 t273.length co34, .slice Ao38 t276.length co38] 25 (0, 0)) (by (with_reducible repeat (first | apply xN_ | apply xD_ | apply xA_)); refine xR_ ?_ NB280_327.out _; refine xR_ ?_ NB280_327.out _; (with_reducible repeat (first | apply xN_ | apply xD_ | apply xA_)); exact BK280.out) hb); replace BK288 := aM_ (blk_below (g := gb288) (o := .cells #[.slice Ao44 t281.length co44, .slice Ao49 t284.length co49] 25 (0, 0)) (by (with_reducible repeat (first | apply xN_ | apply xD_ | apply xA_)); refine xR_ ?_ NB288_327.out _; refine xR_ ?_ NB288_327.out _; (with_reducible repeat (first | apply xN_ | apply xD_ | apply xA_)); exact BK288.out) hb); replace BK303 := aM_ (blk_below (g := gb303) (o := .cells #[.slice Ao101 t296.length co101, .slice Ao107 t299.length co107] 25 (0, 0)) (by (with_reducible repeat (first | apply xN_ | apply xD_ | apply xA_)); refine xR_ ?_ NB303_327.out _; refine xR_ ?_ NB303_327.out _; (with_reducible repeat (first | apply xN_ | apply xD_ | apply xA_)); exact BK303.out) hb); replace BK311 := aM_ (blk_below (g := gb311) (o := .cells #[.slice Ao112 t304.length co112, .slice Ao119 t307.length co119] 25 (0, 0)) (by (with_reducible repeat (first | apply xN_ | apply xD_ | apply xA_)); refine xR_ ?_ NB311_327.out _; refine xR_ ?_ NB311_327.out _; (with_reducible repeat (first | apply xN_ | apply xD_ | apply xA_)); exact BK311.out) hb); replace BK319 := aM_ (blk_below (g := gb319) (o := .cells #[.slice Ao124 t312.length co124, .slice Ao132 t315.length co132] 25 (0, 0)) (by (with_reducible repeat (first | apply xN_ | apply xD_ | apply xA_)); refine xR_ ?_ NB319_327.out _; refine xR_ ?_ NB319_327.out _; (with_reducible repeat (first | apply xN_ | apply xD_ | apply xA_)); exact BK319.out) hb); replace BK327 := aM_ (blk_below (g := gb327) (o := .cells #[.slice Ao137 t320.length co137, .slice Ao146 t323.length co146] 25 (0, 0)) (by (with_reducible repeat (first | apply xN_ | apply xD_ | apply xA_)); refine blk_put (cs := #[.slice Ao137 t320.length co137, .slice none 0 0]) ?_ 1 _ rfl; refine blk_put (cs := #[.slice none 0 0, .slice none 0 0]) ?_ 0 _ rfl; (with_reducible repeat (first | apply xN_ | apply xD_ | apply xA_)); exact BK327.out) hb); replace BK270 := aM_ (blk_below (g := gb270) (o := .cells #[.int .i64 a1_0, .string a1_1] 27 (0, 0)) (by (with_reducible repeat (first | apply xN_ | apply xD_ | apply xA_)); refine xR_ ?_ NB270_327.out _; refine xR_ ?_ NB270_327.out _; (with_reducible repeat (first | apply xN_ | apply xD_ | apply xA_)); exact BK270.out) hb); replace HB := aM_ (below_step (by repeat (first | (with_reducible first | exact HB.out | apply yA_ | apply yN_ | apply yD_ | refine yS_ ?_ GE269.out | refine yS_ ?_ GE270.out | refine yS_ ?_ GE280.out | refine yS_ ?_ GE288.out | refine yS_ ?_ GE303.out | refine yS_ ?_ GE311.out | refine yS_ ?_ GE319.out | refine yS_ ?_ GE327.out) | exact HB.out)) hb); (try clear hb); (try clear ho0); (try clear ho1)) | ((with_reducible refine gate_dst (N := 23) rfl ?_); (try (refine gate_guard (by rfl) ?_; dsimp only)); refine box_event ?hg (N := 23) ?hd (cs := #[.slice none 0 0, .slice none 0 0]) (t := 25) ?hr ?_; (case hd => rfl); (case hg => rfl); (case hr => first | (go_simp; done) | (go_simp; rfl)); intro gb335 hg w151 hbox hb; have hz_ := zq HB (by repeat (first | (with_reducible first | exact Below.refl _ _ | apply yA_ | apply yN_ | apply yD_) | exact Below.refl _ _)) hb; replace hb := below_step hz_ hb; replace HO_281000 := zE HO_281000 hz_ hg hb; replace HO_281001 := zE HO_281001 hz_ hg hb; replace HO_289000 := zE HO_289000 hz_ hg hb; replace HO_289001 := zE HO_289001 hz_ hg hb; replace HO298 := zE HO298 hz_ hg hb; replace HO301 := zE HO301 hz_ hg hb; replace HO306 := zE HO306 hz_ hg hb; replace HO309 := zE HO309 hz_ hg hb; replace HO314 := zE HO314 hz_ hg hb; replace HO317 := zE HO317 hz_ hg hb; replace HO322 := zE HO322 hz_ hg hb; replace HO325 := zE HO325 hz_ hg hb; replace HO330 := zR HO330 hb; replace HO333 := zR HO333 hb; have BK335 := aM_ hbox; have GW335 := zG HB hz_ hg; have GE335 := zG HB hz_ hg; have NB269_335 := zN BK269 hz_ hg; have NB335_269 := zM BK269 hz_ hg; have NB270_335 := zN BK270 hz_ hg; have NB335_270 := zM BK270 hz_ hg; have NB280_335 := zN BK280 hz_ hg; have NB335_280 := zM BK280 hz_ hg; have NB288_335 := zN BK288 hz_ hg; have NB335_288 := zM BK288 hz_ hg; have NB303_335 := zN BK303 hz_ hg; have NB335_303 := zM BK303 hz_ hg; have NB311_335 := zN BK311 hz_ hg; have NB335_311 := zM BK311 hz_ hg; have NB319_335 := zN BK319 hz_ hg; have NB335_319 := zM BK319 hz_ hg; have NB327_335 := zN BK327 hz_ hg; have NB335_327 := zM BK327 hz_ hg; replace BK269 := zB BK269 hb; replace BK270 := zB BK270 hb; replace BK280 := zB BK280 hb; replace BK288 := zB BK288 hb; replace BK303 := zB BK303 hb; replace BK311 := zB BK311 hb; replace BK319 := zB BK319 hb; replace BK327 := zB BK327 hb; replace HB := zH HB hb; clear hz_; clear hb hbox hg; obtain ⟨Ao152, co152, eo152⟩ := Kd.R_slice HO330.out; subst eo152; have hnb153 := NB335_269.out; have hnc153 := NB269_335.out; have hnb154 := NB335_270.out; have hnc154 := NB270_335.out; have hnb155 := NB335_280.out; have hnc155 := NB280_335.out; have hnb156 := NB335_288.out; have hnc156 := NB288_335.out; have hnb157 := NB335_303.out; have hnc157 := NB303_335.out; have hnb158 := NB335_311.out; have hnc158 := NB311_335.out; have hnb159 := NB335_319.out; have hnc159 := NB319_335.out; have hnb160 := NB335_327.out; have hnc160 := NB327_335.out; have hcz161_0 : w151.cell? ⟨gb335, 0, none⟩ = some (.slice none 0 0) := (xC_ BK335.out 0).trans rfl; have hcz161_1 : w151.cell? ⟨gb335, 1, none⟩ = some (.slice none 0 0) := (xC_ BK335.out 1).trans rfl; have hfz161_0 := xF_ BK335.out 0; have hfz161_1 := xF_ BK335.out 1; obtain ⟨Ao162, co162, eo162⟩ := Kd.R_slice HO333.out; subst eo162; have hcz163_0 : w151.cell? ⟨gb270, 0, none⟩ = some (.int .i64 a1_0) := (xC_ BK270.out 0).trans rfl; have hcz163_1 : w151.cell? ⟨gb270, 1, none⟩ = some (.string a1_1) := (xC_ BK270.out 1).trans rfl; have hfz163_0 := xF_ BK270.out 0; have hfz163_1 := xF_ BK270.out 1) | ((with_reducible refine gate_callee (f := 23) rfl ?_); refine goesL_ (some 131) rfl rfl Try.func23 (by kernel_rfl) rfl #[.int .i64 a1_0] rfl (by (try simp only [List.map_toArray, List.map_cons, List.map_nil]); first | done | rfl) ?_; (with_reducible refine (armadaref01_New.calls kj27 a1_0 t336 t339 t342 _ A81.out).mono ?_); rintro e w164 ⟨v337, v340, rfl, ho0, ho1, hb⟩; refine ⟨_, rfl, ?_⟩; replace HO_281000 := aM_ (hV_ (Kd.V_told (Kd.V_told (Kd.V_old (by (with_reducible repeat (first | apply vA_ | apply vN_ | apply vD_)); exact (hV_ (fV_ (p := ⟨gb335, 1, none⟩) (fV_ (p := ⟨gb335, 0, none⟩) (hV_ HO_281000.out (fun k_ hk => (⟨hk, hk.2⟩ : _ ∧ k_ ≠ gb335))) (fun _ hk => hk.2) (.slice Ao152 t328.length co152)) (fun _ hk => hk.2) (.slice Ao162 t331.length co162)) (fun _ h_ => h_.1))) hb) (Kd.R_base ho0)) (Kd.R_base ho1)) (fun _ h_ => h_.1)); replace HO_281001 := aM_ (hV_ (Kd.V_told (Kd.V_told (Kd.V_old (by (with_reducible repeat (first | apply vA_ | apply vN_ | apply vD_)); exact (hV_ (fV_ (p := ⟨gb335, 1, none⟩) (fV_ (p := ⟨gb335, 0, none⟩) (hV_ HO_281001.out (fun k_ hk => (⟨hk, hk.2⟩ : _ ∧ k_ ≠ gb335))) (fun _ hk => hk.2) (.slice Ao152 t328.length co152)) (fun _ hk => hk.2) (.slice Ao162 t331.length co162)) (fun _ h_ => h_.1))) hb) (Kd.R_base ho0)) (Kd.R_base ho1)) (fun _ h_ => h_.1)); replace HO_289000 := aM_ (hV_ (Kd.V_told (Kd.V_told (Kd.V_old (by (with_reducible repeat (first | apply vA_ | apply vN_ | apply vD_)); exact (hV_ (fV_ (p := ⟨gb335, 1, none⟩) (fV_ (p := ⟨gb335, 0, none⟩) (hV_ HO_289000.out (fun k_ hk => (⟨hk, hk.2⟩ : _ ∧ k_ ≠ gb335))) (fun _ hk => hk.2) (.slice Ao152 t328.length co152)) (fun _ hk => hk.2) (.slice Ao162 t331.length co162)) (fun _ h_ => h_.1))) hb) (Kd.R_base ho0)) (Kd.R_base ho1)) (fun _ h_ => h_.1)); replace HO_289001 := aM_ (hV_ (Kd.V_told (Kd.V_told (Kd.V_old (by (with_reducible repeat (first | apply vA_ | apply vN_ | apply vD_)); exact (hV_ (fV_ (p := ⟨gb335, 1, none⟩) (fV_ (p := ⟨gb335, 0, none⟩) (hV_ HO_289001.out (fun k_ hk => (⟨hk, hk.2⟩ : _ ∧ k_ ≠ gb335))) (fun _ hk => hk.2) (.slice Ao152 t328.length co152)) (fun _ hk => hk.2) (.slice Ao162 t331.length co162)) (fun _ h_ => h_.1))) hb) (Kd.R_base ho0)) (Kd.R_base ho1)) (fun _ h_ => h_.1)); replace HO298 := aM_ (hV_ (Kd.V_told (Kd.V_told (Kd.V_old (by (with_reducible repeat (first | apply vA_ | apply vN_ | apply vD_)); exact (hV_ (fV_ (p := ⟨gb335, 1, none⟩) (fV_ (p := ⟨gb335, 0, none⟩) (hV_ HO298.out (fun k_ hk => (⟨hk, hk.2⟩ : _ ∧ k_ ≠ gb335))) (fun _ hk => hk.2) (.slice Ao152 t328.length co152)) (fun _ hk => hk.2) (.slice Ao162 t331.length co162)) (fun _ h_ => h_.1))) hb) (Kd.R_base ho0)) (Kd.R_base ho1)) (fun _ h_ => h_.1)); replace HO301 := aM_ (hV_ (Kd.V_told (Kd.V_told (Kd.V_old (by (with_reducible repeat (first | apply vA_ | apply vN_ | apply vD_)); exact (hV_ (fV_ (p := ⟨gb335, 1, none⟩) (fV_ (p := ⟨gb335, 0, none⟩) (hV_ HO301.out (fun k_ hk => (⟨hk, hk.2⟩ : _ ∧ k_ ≠ gb335))) (fun _ hk => hk.2) (.slice Ao152 t328.length co152)) (fun _ hk => hk.2) (.slice Ao162 t331.length co162)) (fun _ h_ => h_.1))) hb) (Kd.R_base ho0)) (Kd.R_base ho1)) (fun _ h_ => h_.1)); replace HO306 := aM_ (hV_ (Kd.V_told (Kd.V_told (Kd.V_old (by (with_reducible repeat (first | apply vA_ | apply vN_ | apply vD_)); exact (hV_ (fV_ (p := ⟨gb335, 1, none⟩) (fV_ (p := ⟨gb335, 0, none⟩) (hV_ HO306.out (fun k_ hk => (⟨hk, hk.2⟩ : _ ∧ k_ ≠ gb335))) (fun _ hk => hk.2) (.slice Ao152 t328.length co152)) (fun _ hk => hk.2) (.slice Ao162 t331.length co162)) (fun _ h_ => h_.1))) hb) (Kd.R_base ho0)) (Kd.R_base ho1)) (fun _ h_ => h_.1)); replace HO309 := aM_ (hV_ (Kd.V_told (Kd.V_told (Kd.V_old (by (with_reducible repeat (first | apply vA_ | apply vN_ | apply vD_)); exact (hV_ (fV_ (p := ⟨gb335, 1, none⟩) (fV_ (p := ⟨gb335, 0, none⟩) (hV_ HO309.out (fun k_ hk => (⟨hk, hk.2⟩ : _ ∧ k_ ≠ gb335))) (fun _ hk => hk.2) (.slice Ao152 t328.length co152)) (fun _ hk => hk.2) (.slice Ao162 t331.length co162)) (fun _ h_ => h_.1))) hb) (Kd.R_base ho0)) (Kd.R_base ho1)) (fun _ h_ => h_.1)); replace HO314 := aM_ (hV_ (Kd.V_told (Kd.V_told (Kd.V_old (by (with_reducible repeat (first | apply vA_ | apply vN_ | apply vD_)); exact (hV_ (fV_ (p := ⟨gb335, 1, none⟩) (fV_ (p := ⟨gb335, 0, none⟩) (hV_ HO314.out (fun k_ hk => (⟨hk, hk.2⟩ : _ ∧ k_ ≠ gb335))) (fun _ hk => hk.2) (.slice Ao152 t328.length co152)) (fun _ hk => hk.2) (.slice Ao162 t331.length co162)) (fun _ h_ => h_.1))) hb) (Kd.R_base ho0)) (Kd.R_base ho1)) (fun _ h_ => h_.1)); replace HO317 := aM_ (hV_ (Kd.V_told (Kd.V_told (Kd.V_old (by (with_reducible repeat (first | apply vA_ | apply vN_ | apply vD_)); exact (hV_ (fV_ (p := ⟨gb335, 1, none⟩) (fV_ (p := ⟨gb335, 0, none⟩) (hV_ HO317.out (fun k_ hk => (⟨hk, hk.2⟩ : _ ∧ k_ ≠ gb335))) (fun _ hk => hk.2) (.slice Ao152 t328.length co152)) (fun _ hk => hk.2) (.slice Ao162 t331.length co162)) (fun _ h_ => h_.1))) hb) (Kd.R_base ho0)) (Kd.R_base ho1)) (fun _ h_ => h_.1)); replace HO322 := aM_ (hV_ (Kd.V_told (Kd.V_told (Kd.V_old (by (with_reducible repeat (first | apply vA_ | apply vN_ | apply vD_)); exact (hV_ (fV_ (p := ⟨gb335, 1, none⟩) (fV_ (p := ⟨gb335, 0, none⟩) (hV_ HO322.out (fun k_ hk => (⟨hk, hk.2⟩ : _ ∧ k_ ≠ gb335))) (fun _ hk => hk.2) (.slice Ao152 t328.length co152)) (fun _ hk => hk.2) (.slice Ao162 t331.length co162)) (fun _ h_ => h_.1))) hb) (Kd.R_base ho0)) (Kd.R_base ho1)) (fun _ h_ => h_.1)); replace HO325 := aM_ (hV_ (Kd.V_told (Kd.V_told (Kd.V_old (by (with_reducible repeat (first | apply vA_ | apply vN_ | apply vD_)); exact (hV_ (fV_ (p := ⟨gb335, 1, none⟩) (fV_ (p := ⟨gb335, 0, none⟩) (hV_ HO325.out (fun k_ hk => (⟨hk, hk.2⟩ : _ ∧ k_ ≠ gb335))) (fun _ hk => hk.2) (.slice Ao152 t328.length co152)) (fun _ hk => hk.2) (.slice Ao162 t331.length co162)) (fun _ h_ => h_.1))) hb) (Kd.R_base ho0)) (Kd.R_base ho1)) (fun _ h_ => h_.1)); have HO338 := aM_ (Kd.R_lower (Kd.R_new' ho0 (Kd.R_lt (by (with_reducible repeat (first | apply Kd.R_alloc | apply Kd.R_drewN | apply Kd.R_drew)); exact (Kd.R_mono (Kd.R_far (p := ⟨gb335, 1, none⟩) (Kd.R_far (p := ⟨gb335, 0, none⟩) (Kd.R_types HO330.out BK335.out (by decide)) (fun _ hk => hk.2) (.slice Ao152 t328.length co152)) (fun _ hk => hk.2) (.slice Ao162 t331.length co162)) (fun _ h_ => h_.1))))) (below_size (by repeat (first | (with_reducible first | exact HB.out | apply yA_ | apply yN_ | apply yD_ | refine yS_ ?_ GE269.out | refine yS_ ?_ GE270.out | refine yS_ ?_ GE280.out | refine yS_ ?_ GE288.out | refine yS_ ?_ GE303.out | refine yS_ ?_ GE311.out | refine yS_ ?_ GE319.out | refine yS_ ?_ GE327.out | refine yS_ ?_ GE335.out) | exact HB.out)))); have HO341 := aM_ (Kd.R_lower (Kd.R_newB (Kd.R_new' ho1 (Kd.R_lt (by (with_reducible repeat (first | apply Kd.R_alloc | apply Kd.R_drewN | apply Kd.R_drew)); exact (Kd.R_mono (Kd.R_far (p := ⟨gb335, 1, none⟩) (Kd.R_far (p := ⟨gb335, 0, none⟩) (Kd.R_types HO333.out BK335.out (by decide)) (fun _ hk => hk.2) (.slice Ao152 t328.length co152)) (fun _ hk => hk.2) (.slice Ao162 t331.length co162)) (fun _ h_ => h_.1))))) (g := gb270) (o := .cells #[.int .i64 a1_0, .string a1_1] 27 (0, 0)) (by (with_reducible repeat (first | apply xN_ | apply xD_ | apply xA_)); refine xR_ ?_ NB270_335.out _; refine xR_ ?_ NB270_335.out _; (with_reducible repeat (first | apply xN_ | apply xD_ | apply xA_)); exact BK270.out)) (below_size (by repeat (first | (with_reducible first | exact HB.out | apply yA_ | apply yN_ | apply yD_ | refine yS_ ?_ GE269.out | refine yS_ ?_ GE270.out | refine yS_ ?_ GE280.out | refine yS_ ?_ GE288.out | refine yS_ ?_ GE303.out | refine yS_ ?_ GE311.out | refine yS_ ?_ GE319.out | refine yS_ ?_ GE327.out | refine yS_ ?_ GE335.out) | exact HB.out)))); replace BK269 := aM_ (blk_below (g := gb269) (o := .cells #[.slice A0_0 l0_0.length c0_0, .slice A0_1 l0_1.length c0_1] 25 (0, 0)) (by (with_reducible repeat (first | apply xN_ | apply xD_ | apply xA_)); refine xR_ ?_ NB269_335.out _; refine xR_ ?_ NB269_335.out _; (with_reducible repeat (first | apply xN_ | apply xD_ | apply xA_)); exact BK269.out) hb); replace BK280 := aM_ (blk_below (g := gb280) (o := .cells #[.slice Ao34 t273.length co34, .slice Ao38 t276.length co38] 25 (0, 0)) (by (with_reducible repeat (first | apply xN_ | apply xD_ | apply xA_)); refine xR_ ?_ NB280_335.out _; refine xR_ ?_ NB280_335.out _; (with_reducible repeat (first | apply xN_ | apply xD_ | apply xA_)); exact BK280.out) hb); replace BK288 := aM_ (blk_below (g := gb288) (o := .cells #[.slice Ao44 t281.length co44, .slice Ao49 t284.length co49] 25 (0, 0)) (by (with_reducible repeat (first | apply xN_ | apply xD_ | apply xA_)); refine xR_ ?_ NB288_335.out _; refine xR_ ?_ NB288_335.out _; (with_reducible repeat (first | apply xN_ | apply xD_ | apply xA_)); exact BK288.out) hb); replace BK303 := aM_ (blk_below (g := gb303) (o := .cells #[.slice Ao101 t296.length co101, .slice Ao107 t299.length co107] 25 (0, 0)) (by (with_reducible repeat (first | apply xN_ | apply xD_ | apply xA_)); refine xR_ ?_ NB303_335.out _; refine xR_ ?_ NB303_335.out _; (with_reducible repeat (first | apply xN_ | apply xD_ | apply xA_)); exact BK303.out) hb); replace BK311 := aM_ (blk_below (g := gb311) (o := .cells #[.slice Ao112 t304.length co112, .slice Ao119 t307.length co119] 25 (0, 0)) (by (with_reducible repeat (first | apply xN_ | apply xD_ | apply xA_)); refine xR_ ?_ NB311_335.out _; refine xR_ ?_ NB311_335.out _; (with_reducible repeat (first | apply xN_ | apply xD_ | apply xA_)); exact BK311.out) hb); replace BK319 := aM_ (blk_below (g := gb319) (o := .cells #[.slice Ao124 t312.length co124, .slice Ao132 t315.length co132] 25 (0, 0)) (by (with_reducible repeat (first | apply xN_ | apply xD_ | apply xA_)); refine xR_ ?_ NB319_335.out _; refine xR_ ?_ NB319_335.out _; (with_reducible repeat (first | apply xN_ | apply xD_ | apply xA_)); exact BK319.out) hb); replace BK327 := aM_ (blk_below (g := gb327) (o := .cells #[.slice Ao137 t320.length co137, .slice Ao146 t323.length co146] 25 (0, 0)) (by (with_reducible repeat (first | apply xN_ | apply xD_ | apply xA_)); refine xR_ ?_ NB327_335.out _; refine xR_ ?_ NB327_335.out _; (with_reducible repeat (first | apply xN_ | apply xD_ | apply xA_)); exact BK327.out) hb); replace HO330 := aM_ (Kd.R_elder' (by (with_reducible repeat (first | apply Kd.R_alloc | apply Kd.R_drewN | apply Kd.R_drew)); exact (Kd.R_mono (Kd.R_far (p := ⟨gb335, 1, none⟩) (Kd.R_far (p := ⟨gb335, 0, none⟩) (Kd.R_types HO330.out BK335.out (by decide)) (fun _ hk => hk.2) (.slice Ao152 t328.length co152)) (fun _ hk => hk.2) (.slice Ao162 t331.length co162)) (fun _ h_ => h_.1))) (Kd.R_base ho0) hb); replace HO333 := aM_ (Kd.R_elder' (by (with_reducible repeat (first | apply Kd.R_alloc | apply Kd.R_drewN | apply Kd.R_drew)); exact (Kd.R_mono (Kd.R_far (p := ⟨gb335, 1, none⟩) (Kd.R_far (p := ⟨gb335, 0, none⟩) (Kd.R_types HO333.out BK335.out (by decide)) (fun _ hk => hk.2) (.slice Ao152 t328.length co152)) (fun _ hk => hk.2) (.slice Ao162 t331.length co162)) (fun _ h_ => h_.1))) (Kd.R_base ho1) hb); replace BK270 := aM_ (blk_below (g := gb270) (o := .cells #[.int .i64 a1_0, .string a1_1] 27 (0, 0)) (by (with_reducible repeat (first | apply xN_ | apply xD_ | apply xA_)); refine xR_ ?_ NB270_335.out _; refine xR_ ?_ NB270_335.out _; (with_reducible repeat (first | apply xN_ | apply xD_ | apply xA_)); exact BK270.out) hb); replace HB := aM_ (below_step (by repeat (first | (with_reducible first | exact HB.out | apply yA_ | apply yN_ | apply yD_ | refine yS_ ?_ GE269.out | refine yS_ ?_ GE270.out | refine yS_ ?_ GE280.out | refine yS_ ?_ GE288.out | refine yS_ ?_ GE303.out | refine yS_ ?_ GE311.out | refine yS_ ?_ GE319.out | refine yS_ ?_ GE327.out | refine yS_ ?_ GE335.out) | exact HB.out)) hb); replace BK335 := aM_ (blk_below (g := gb335) (o := .cells #[.slice Ao152 t328.length co152, .slice Ao162 t331.length co162] 25 (0, 0)) (by (with_reducible repeat (first | apply xN_ | apply xD_ | apply xA_)); refine blk_put (cs := #[.slice Ao152 t328.length co152, .slice none 0 0]) ?_ 1 _ rfl; refine blk_put (cs := #[.slice none 0 0, .slice none 0 0]) ?_ 0 _ rfl; (with_reducible repeat (first | apply xN_ | apply xD_ | apply xA_)); exact BK335.out) hb); (try clear hb); (try clear ho0); (try clear ho1)) | ((with_reducible refine gate_dst (N := 25) rfl ?_); (try (refine gate_guard (by rfl) ?_; dsimp only)); refine box_event ?hg (N := 25) ?hd (cs := #[.slice none 0 0, .slice none 0 0]) (t := 25) ?hr ?_; (case hd => rfl); (case hg => rfl); (case hr => first | (go_simp; done) | (go_simp; rfl)); intro gb343 hg w165 hbox hb; have hz_ := zq HB (by repeat (first | (with_reducible first | exact Below.refl _ _ | apply yA_ | apply yN_ | apply yD_) | exact Below.refl _ _)) hb; replace hb := below_step hz_ hb; replace HO_281000 := zE HO_281000 hz_ hg hb; replace HO_281001 := zE HO_281001 hz_ hg hb; replace HO_289000 := zE HO_289000 hz_ hg hb; replace HO_289001 := zE HO_289001 hz_ hg hb; replace HO298 := zE HO298 hz_ hg hb; replace HO301 := zE HO301 hz_ hg hb; replace HO306 := zE HO306 hz_ hg hb; replace HO309 := zE HO309 hz_ hg hb; replace HO314 := zE HO314 hz_ hg hb; replace HO317 := zE HO317 hz_ hg hb; replace HO322 := zE HO322 hz_ hg hb; replace HO325 := zE HO325 hz_ hg hb; replace HO330 := zR HO330 hb; replace HO333 := zR HO333 hb; replace HO338 := zR HO338 hb; replace HO341 := zR HO341 hb; have BK343 := aM_ hbox; have GW343 := zG HB hz_ hg; have GE343 := zG HB hz_ hg; have NB269_343 := zN BK269 hz_ hg; have NB343_269 := zM BK269 hz_ hg; have NB270_343 := zN BK270 hz_ hg; have NB343_270 := zM BK270 hz_ hg; have NB280_343 := zN BK280 hz_ hg; have NB343_280 := zM BK280 hz_ hg; have NB288_343 := zN BK288 hz_ hg; have NB343_288 := zM BK288 hz_ hg; have NB303_343 := zN BK303 hz_ hg; have NB343_303 := zM BK303 hz_ hg; have NB311_343 := zN BK311 hz_ hg; have NB343_311 := zM BK311 hz_ hg; have NB319_343 := zN BK319 hz_ hg; have NB343_319 := zM BK319 hz_ hg; have NB327_343 := zN BK327 hz_ hg; have NB343_327 := zM BK327 hz_ hg; have NB335_343 := zN BK335 hz_ hg; have NB343_335 := zM BK335 hz_ hg; replace BK269 := zB BK269 hb; replace BK270 := zB BK270 hb; replace BK280 := zB BK280 hb; replace BK288 := zB BK288 hb; replace BK303 := zB BK303 hb; replace BK311 := zB BK311 hb; replace BK319 := zB BK319 hb; replace BK327 := zB BK327 hb; replace BK335 := zB BK335 hb; replace HB := zH HB hb; clear hz_; clear hb hbox hg; obtain ⟨Ao166, co166, eo166⟩ := Kd.R_slice HO338.out; subst eo166; have hnb167 := NB343_269.out; have hnc167 := NB269_343.out; have hnb168 := NB343_270.out; have hnc168 := NB270_343.out; have hnb169 := NB343_280.out; have hnc169 := NB280_343.out; have hnb170 := NB343_288.out; have hnc170 := NB288_343.out; have hnb171 := NB343_303.out; have hnc171 := NB303_343.out; have hnb172 := NB343_311.out; have hnc172 := NB311_343.out; have hnb173 := NB343_319.out; have hnc173 := NB319_343.out; have hnb174 := NB343_327.out; have hnc174 := NB327_343.out; have hnb175 := NB343_335.out; have hnc175 := NB335_343.out; have hcz176_0 : w165.cell? ⟨gb343, 0, none⟩ = some (.slice none 0 0) := (xC_ BK343.out 0).trans rfl; have hcz176_1 : w165.cell? ⟨gb343, 1, none⟩ = some (.slice none 0 0) := (xC_ BK343.out 1).trans rfl; have hfz176_0 := xF_ BK343.out 0; have hfz176_1 := xF_ BK343.out 1; obtain ⟨Ao177, co177, eo177⟩ := Kd.R_slice HO341.out; subst eo177))
              have n0_ : Aside0 (Kd.V Kd.string 9 ((w165.setCell ⟨gb343, 0, none⟩ (.slice Ao166 t336.length co166)).setCell ⟨gb343, 1, none⟩ (.slice Ao177 t339.length co177)) w.heap.size (fun k_ => some k_ ≠ (.slice Ao152 t328.length co152 : Value).ownBlock ∧ some k_ ≠ (.slice Ao162 t331.length co162 : Value).ownBlock ∧ some k_ ≠ (.slice Ao166 t336.length co166 : Value).ownBlock ∧ some k_ ≠ (.slice Ao177 t339.length co177 : Value).ownBlock ∧ k_ ≠ gb269 ∧ k_ ≠ gb270 ∧ k_ ≠ gb280 ∧ k_ ≠ gb288 ∧ k_ ≠ gb303 ∧ k_ ≠ gb311 ∧ k_ ≠ gb319 ∧ k_ ≠ gb327 ∧ k_ ≠ gb335 ∧ k_ ≠ gb343) (.slice Ao34 t273.length co34) t273) := ⟨by (with_reducible repeat (first | apply vA_ | apply vN_ | apply vD_)); exact hV_ (fV_ (p := ⟨gb343, 1, none⟩) (fV_ (p := ⟨gb343, 0, none⟩) (hV_ HO_281000.out (fun k_ hk => (⟨hk, hk.2⟩ : _ ∧ k_ ≠ gb343))) (fun _ hk => hk.2) (.slice Ao166 t336.length co166)) (fun _ hk => hk.2) (.slice Ao177 t339.length co177)) (fun _ hk => ⟨hk.1.1.1.1.1.1.2, ⟨hk.1.1.1.1.1.2, ⟨hk.1.1.1.2, ⟨hk.1.1.2, ⟨hk.1.1.1.1.1.1.1.1.1, ⟨hk.1.1.1.1.1.1.1.1.2.1, ⟨hk.1.1.1.1.1.1.1.1.2.2.1, ⟨hk.1.1.1.1.1.1.1.1.2.2.2.1, ⟨hk.1.1.1.1.1.1.1.1.2.2.2.2.1, ⟨hk.1.1.1.1.1.1.1.1.2.2.2.2.2.1, ⟨hk.1.1.1.1.1.1.1.1.2.2.2.2.2.2, ⟨hk.1.1.1.1.1.1.1.2, ⟨hk.1.1.1.1.2, hk.1.2⟩⟩⟩⟩⟩⟩⟩⟩⟩⟩⟩⟩⟩)⟩
              have n1_ : Aside0 (Kd.V k27 27 ((w165.setCell ⟨gb343, 0, none⟩ (.slice Ao166 t336.length co166)).setCell ⟨gb343, 1, none⟩ (.slice Ao177 t339.length co177)) w.heap.size (fun k_ => some k_ ≠ (.slice Ao152 t328.length co152 : Value).ownBlock ∧ some k_ ≠ (.slice Ao162 t331.length co162 : Value).ownBlock ∧ some k_ ≠ (.slice Ao166 t336.length co166 : Value).ownBlock ∧ some k_ ≠ (.slice Ao177 t339.length co177 : Value).ownBlock ∧ k_ ≠ gb269 ∧ k_ ≠ gb270 ∧ k_ ≠ gb280 ∧ k_ ≠ gb288 ∧ k_ ≠ gb303 ∧ k_ ≠ gb311 ∧ k_ ≠ gb319 ∧ k_ ≠ gb327 ∧ k_ ≠ gb335 ∧ k_ ≠ gb343) (.slice Ao38 t276.length co38) t276) := ⟨by (with_reducible repeat (first | apply vA_ | apply vN_ | apply vD_)); exact hV_ (fV_ (p := ⟨gb343, 1, none⟩) (fV_ (p := ⟨gb343, 0, none⟩) (hV_ HO_281001.out (fun k_ hk => (⟨hk, hk.2⟩ : _ ∧ k_ ≠ gb343))) (fun _ hk => hk.2) (.slice Ao166 t336.length co166)) (fun _ hk => hk.2) (.slice Ao177 t339.length co177)) (fun _ hk => ⟨hk.1.1.1.1.1.1.2, ⟨hk.1.1.1.1.1.2, ⟨hk.1.1.1.2, ⟨hk.1.1.2, ⟨hk.1.1.1.1.1.1.1.1.1, ⟨hk.1.1.1.1.1.1.1.1.2.1, ⟨hk.1.1.1.1.1.1.1.1.2.2.1, ⟨hk.1.1.1.1.1.1.1.1.2.2.2.1, ⟨hk.1.1.1.1.1.1.1.1.2.2.2.2.1, ⟨hk.1.1.1.1.1.1.1.1.2.2.2.2.2.1, ⟨hk.1.1.1.1.1.1.1.1.2.2.2.2.2.2, ⟨hk.1.1.1.1.1.1.1.2, ⟨hk.1.1.1.1.2, hk.1.2⟩⟩⟩⟩⟩⟩⟩⟩⟩⟩⟩⟩⟩)⟩
              have n2_ : Aside0 (Kd.V Kd.string 9 ((w165.setCell ⟨gb343, 0, none⟩ (.slice Ao166 t336.length co166)).setCell ⟨gb343, 1, none⟩ (.slice Ao177 t339.length co177)) w.heap.size (fun k_ => some k_ ≠ (.slice Ao152 t328.length co152 : Value).ownBlock ∧ some k_ ≠ (.slice Ao162 t331.length co162 : Value).ownBlock ∧ some k_ ≠ (.slice Ao166 t336.length co166 : Value).ownBlock ∧ some k_ ≠ (.slice Ao177 t339.length co177 : Value).ownBlock ∧ k_ ≠ gb269 ∧ k_ ≠ gb270 ∧ k_ ≠ gb280 ∧ k_ ≠ gb288 ∧ k_ ≠ gb303 ∧ k_ ≠ gb311 ∧ k_ ≠ gb319 ∧ k_ ≠ gb327 ∧ k_ ≠ gb335 ∧ k_ ≠ gb343) (.slice Ao44 t281.length co44) t281) := ⟨by (with_reducible repeat (first | apply vA_ | apply vN_ | apply vD_)); exact hV_ (fV_ (p := ⟨gb343, 1, none⟩) (fV_ (p := ⟨gb343, 0, none⟩) (hV_ HO_289000.out (fun k_ hk => (⟨hk, hk.2⟩ : _ ∧ k_ ≠ gb343))) (fun _ hk => hk.2) (.slice Ao166 t336.length co166)) (fun _ hk => hk.2) (.slice Ao177 t339.length co177)) (fun _ hk => ⟨hk.1.1.1.1.1.1.2, ⟨hk.1.1.1.1.1.2, ⟨hk.1.1.1.2, ⟨hk.1.1.2, ⟨hk.1.1.1.1.1.1.1.1.1, ⟨hk.1.1.1.1.1.1.1.1.2.1, ⟨hk.1.1.1.1.1.1.1.1.2.2.1, ⟨hk.1.1.1.1.1.1.1.1.2.2.2.1, ⟨hk.1.1.1.1.1.1.1.1.2.2.2.2.1, ⟨hk.1.1.1.1.1.1.1.1.2.2.2.2.2.1, ⟨hk.1.1.1.1.1.1.1.1.2.2.2.2.2.2, ⟨hk.1.1.1.1.1.1.1.2, ⟨hk.1.1.1.1.2, hk.1.2⟩⟩⟩⟩⟩⟩⟩⟩⟩⟩⟩⟩⟩)⟩
              have n3_ : Aside0 (Kd.V k27 27 ((w165.setCell ⟨gb343, 0, none⟩ (.slice Ao166 t336.length co166)).setCell ⟨gb343, 1, none⟩ (.slice Ao177 t339.length co177)) w.heap.size (fun k_ => some k_ ≠ (.slice Ao152 t328.length co152 : Value).ownBlock ∧ some k_ ≠ (.slice Ao162 t331.length co162 : Value).ownBlock ∧ some k_ ≠ (.slice Ao166 t336.length co166 : Value).ownBlock ∧ some k_ ≠ (.slice Ao177 t339.length co177 : Value).ownBlock ∧ k_ ≠ gb269 ∧ k_ ≠ gb270 ∧ k_ ≠ gb280 ∧ k_ ≠ gb288 ∧ k_ ≠ gb303 ∧ k_ ≠ gb311 ∧ k_ ≠ gb319 ∧ k_ ≠ gb327 ∧ k_ ≠ gb335 ∧ k_ ≠ gb343) (.slice Ao49 t284.length co49) t284) := ⟨by (with_reducible repeat (first | apply vA_ | apply vN_ | apply vD_)); exact hV_ (fV_ (p := ⟨gb343, 1, none⟩) (fV_ (p := ⟨gb343, 0, none⟩) (hV_ HO_289001.out (fun k_ hk => (⟨hk, hk.2⟩ : _ ∧ k_ ≠ gb343))) (fun _ hk => hk.2) (.slice Ao166 t336.length co166)) (fun _ hk => hk.2) (.slice Ao177 t339.length co177)) (fun _ hk => ⟨hk.1.1.1.1.1.1.2, ⟨hk.1.1.1.1.1.2, ⟨hk.1.1.1.2, ⟨hk.1.1.2, ⟨hk.1.1.1.1.1.1.1.1.1, ⟨hk.1.1.1.1.1.1.1.1.2.1, ⟨hk.1.1.1.1.1.1.1.1.2.2.1, ⟨hk.1.1.1.1.1.1.1.1.2.2.2.1, ⟨hk.1.1.1.1.1.1.1.1.2.2.2.2.1, ⟨hk.1.1.1.1.1.1.1.1.2.2.2.2.2.1, ⟨hk.1.1.1.1.1.1.1.1.2.2.2.2.2.2, ⟨hk.1.1.1.1.1.1.1.2, ⟨hk.1.1.1.1.2, hk.1.2⟩⟩⟩⟩⟩⟩⟩⟩⟩⟩⟩⟩⟩)⟩
              have n4_ : Aside0 (Kd.V Kd.string 9 ((w165.setCell ⟨gb343, 0, none⟩ (.slice Ao166 t336.length co166)).setCell ⟨gb343, 1, none⟩ (.slice Ao177 t339.length co177)) w.heap.size (fun k_ => some k_ ≠ (.slice Ao152 t328.length co152 : Value).ownBlock ∧ some k_ ≠ (.slice Ao162 t331.length co162 : Value).ownBlock ∧ some k_ ≠ (.slice Ao166 t336.length co166 : Value).ownBlock ∧ some k_ ≠ (.slice Ao177 t339.length co177 : Value).ownBlock ∧ k_ ≠ gb269 ∧ k_ ≠ gb270 ∧ k_ ≠ gb280 ∧ k_ ≠ gb288 ∧ k_ ≠ gb303 ∧ k_ ≠ gb311 ∧ k_ ≠ gb319 ∧ k_ ≠ gb327 ∧ k_ ≠ gb335 ∧ k_ ≠ gb343) (.slice Ao101 t296.length co101) t296) := ⟨by (with_reducible repeat (first | apply vA_ | apply vN_ | apply vD_)); exact hV_ (fV_ (p := ⟨gb343, 1, none⟩) (fV_ (p := ⟨gb343, 0, none⟩) (hV_ HO298.out (fun k_ hk => (⟨hk, hk.2⟩ : _ ∧ k_ ≠ gb343))) (fun _ hk => hk.2) (.slice Ao166 t336.length co166)) (fun _ hk => hk.2) (.slice Ao177 t339.length co177)) (fun _ hk => ⟨hk.1.1.1.1.1.1.2, ⟨hk.1.1.1.1.1.2, ⟨hk.1.1.1.2, ⟨hk.1.1.2, ⟨hk.1.1.1.1.1.1.1.1.1, ⟨hk.1.1.1.1.1.1.1.1.2.1, ⟨hk.1.1.1.1.1.1.1.1.2.2.1, ⟨hk.1.1.1.1.1.1.1.1.2.2.2.1, ⟨hk.1.1.1.1.1.1.1.1.2.2.2.2.1, ⟨hk.1.1.1.1.1.1.1.1.2.2.2.2.2.1, ⟨hk.1.1.1.1.1.1.1.1.2.2.2.2.2.2, ⟨hk.1.1.1.1.1.1.1.2, ⟨hk.1.1.1.1.2, hk.1.2⟩⟩⟩⟩⟩⟩⟩⟩⟩⟩⟩⟩⟩)⟩
              have n5_ : Aside0 (Kd.V k27 27 ((w165.setCell ⟨gb343, 0, none⟩ (.slice Ao166 t336.length co166)).setCell ⟨gb343, 1, none⟩ (.slice Ao177 t339.length co177)) w.heap.size (fun k_ => some k_ ≠ (.slice Ao152 t328.length co152 : Value).ownBlock ∧ some k_ ≠ (.slice Ao162 t331.length co162 : Value).ownBlock ∧ some k_ ≠ (.slice Ao166 t336.length co166 : Value).ownBlock ∧ some k_ ≠ (.slice Ao177 t339.length co177 : Value).ownBlock ∧ k_ ≠ gb269 ∧ k_ ≠ gb270 ∧ k_ ≠ gb280 ∧ k_ ≠ gb288 ∧ k_ ≠ gb303 ∧ k_ ≠ gb311 ∧ k_ ≠ gb319 ∧ k_ ≠ gb327 ∧ k_ ≠ gb335 ∧ k_ ≠ gb343) (.slice Ao107 t299.length co107) t299) := ⟨by (with_reducible repeat (first | apply vA_ | apply vN_ | apply vD_)); exact hV_ (fV_ (p := ⟨gb343, 1, none⟩) (fV_ (p := ⟨gb343, 0, none⟩) (hV_ HO301.out (fun k_ hk => (⟨hk, hk.2⟩ : _ ∧ k_ ≠ gb343))) (fun _ hk => hk.2) (.slice Ao166 t336.length co166)) (fun _ hk => hk.2) (.slice Ao177 t339.length co177)) (fun _ hk => ⟨hk.1.1.1.1.1.1.2, ⟨hk.1.1.1.1.1.2, ⟨hk.1.1.1.2, ⟨hk.1.1.2, ⟨hk.1.1.1.1.1.1.1.1.1, ⟨hk.1.1.1.1.1.1.1.1.2.1, ⟨hk.1.1.1.1.1.1.1.1.2.2.1, ⟨hk.1.1.1.1.1.1.1.1.2.2.2.1, ⟨hk.1.1.1.1.1.1.1.1.2.2.2.2.1, ⟨hk.1.1.1.1.1.1.1.1.2.2.2.2.2.1, ⟨hk.1.1.1.1.1.1.1.1.2.2.2.2.2.2, ⟨hk.1.1.1.1.1.1.1.2, ⟨hk.1.1.1.1.2, hk.1.2⟩⟩⟩⟩⟩⟩⟩⟩⟩⟩⟩⟩⟩)⟩
              have n6_ : Aside0 (Kd.V Kd.string 9 ((w165.setCell ⟨gb343, 0, none⟩ (.slice Ao166 t336.length co166)).setCell ⟨gb343, 1, none⟩ (.slice Ao177 t339.length co177)) w.heap.size (fun k_ => some k_ ≠ (.slice Ao152 t328.length co152 : Value).ownBlock ∧ some k_ ≠ (.slice Ao162 t331.length co162 : Value).ownBlock ∧ some k_ ≠ (.slice Ao166 t336.length co166 : Value).ownBlock ∧ some k_ ≠ (.slice Ao177 t339.length co177 : Value).ownBlock ∧ k_ ≠ gb269 ∧ k_ ≠ gb270 ∧ k_ ≠ gb280 ∧ k_ ≠ gb288 ∧ k_ ≠ gb303 ∧ k_ ≠ gb311 ∧ k_ ≠ gb319 ∧ k_ ≠ gb327 ∧ k_ ≠ gb335 ∧ k_ ≠ gb343) (.slice Ao112 t304.length co112) t304) := ⟨by (with_reducible repeat (first | apply vA_ | apply vN_ | apply vD_)); exact hV_ (fV_ (p := ⟨gb343, 1, none⟩) (fV_ (p := ⟨gb343, 0, none⟩) (hV_ HO306.out (fun k_ hk => (⟨hk, hk.2⟩ : _ ∧ k_ ≠ gb343))) (fun _ hk => hk.2) (.slice Ao166 t336.length co166)) (fun _ hk => hk.2) (.slice Ao177 t339.length co177)) (fun _ hk => ⟨hk.1.1.1.1.1.1.2, ⟨hk.1.1.1.1.1.2, ⟨hk.1.1.1.2, ⟨hk.1.1.2, ⟨hk.1.1.1.1.1.1.1.1.1, ⟨hk.1.1.1.1.1.1.1.1.2.1, ⟨hk.1.1.1.1.1.1.1.1.2.2.1, ⟨hk.1.1.1.1.1.1.1.1.2.2.2.1, ⟨hk.1.1.1.1.1.1.1.1.2.2.2.2.1, ⟨hk.1.1.1.1.1.1.1.1.2.2.2.2.2.1, ⟨hk.1.1.1.1.1.1.1.1.2.2.2.2.2.2, ⟨hk.1.1.1.1.1.1.1.2, ⟨hk.1.1.1.1.2, hk.1.2⟩⟩⟩⟩⟩⟩⟩⟩⟩⟩⟩⟩⟩)⟩
              have n7_ : Aside0 (Kd.V k27 27 ((w165.setCell ⟨gb343, 0, none⟩ (.slice Ao166 t336.length co166)).setCell ⟨gb343, 1, none⟩ (.slice Ao177 t339.length co177)) w.heap.size (fun k_ => some k_ ≠ (.slice Ao152 t328.length co152 : Value).ownBlock ∧ some k_ ≠ (.slice Ao162 t331.length co162 : Value).ownBlock ∧ some k_ ≠ (.slice Ao166 t336.length co166 : Value).ownBlock ∧ some k_ ≠ (.slice Ao177 t339.length co177 : Value).ownBlock ∧ k_ ≠ gb269 ∧ k_ ≠ gb270 ∧ k_ ≠ gb280 ∧ k_ ≠ gb288 ∧ k_ ≠ gb303 ∧ k_ ≠ gb311 ∧ k_ ≠ gb319 ∧ k_ ≠ gb327 ∧ k_ ≠ gb335 ∧ k_ ≠ gb343) (.slice Ao119 t307.length co119) t307) := ⟨by (with_reducible repeat (first | apply vA_ | apply vN_ | apply vD_)); exact hV_ (fV_ (p := ⟨gb343, 1, none⟩) (fV_ (p := ⟨gb343, 0, none⟩) (hV_ HO309.out (fun k_ hk => (⟨hk, hk.2⟩ : _ ∧ k_ ≠ gb343))) (fun _ hk => hk.2) (.slice Ao166 t336.length co166)) (fun _ hk => hk.2) (.slice Ao177 t339.length co177)) (fun _ hk => ⟨hk.1.1.1.1.1.1.2, ⟨hk.1.1.1.1.1.2, ⟨hk.1.1.1.2, ⟨hk.1.1.2, ⟨hk.1.1.1.1.1.1.1.1.1, ⟨hk.1.1.1.1.1.1.1.1.2.1, ⟨hk.1.1.1.1.1.1.1.1.2.2.1, ⟨hk.1.1.1.1.1.1.1.1.2.2.2.1, ⟨hk.1.1.1.1.1.1.1.1.2.2.2.2.1, ⟨hk.1.1.1.1.1.1.1.1.2.2.2.2.2.1, ⟨hk.1.1.1.1.1.1.1.1.2.2.2.2.2.2, ⟨hk.1.1.1.1.1.1.1.2, ⟨hk.1.1.1.1.2, hk.1.2⟩⟩⟩⟩⟩⟩⟩⟩⟩⟩⟩⟩⟩)⟩
              have n8_ : Aside0 (Kd.V Kd.string 9 ((w165.setCell ⟨gb343, 0, none⟩ (.slice Ao166 t336.length co166)).setCell ⟨gb343, 1, none⟩ (.slice Ao177 t339.length co177)) w.heap.size (fun k_ => some k_ ≠ (.slice Ao152 t328.length co152 : Value).ownBlock ∧ some k_ ≠ (.slice Ao162 t331.length co162 : Value).ownBlock ∧ some k_ ≠ (.slice Ao166 t336.length co166 : Value).ownBlock ∧ some k_ ≠ (.slice Ao177 t339.length co177 : Value).ownBlock ∧ k_ ≠ gb269 ∧ k_ ≠ gb270 ∧ k_ ≠ gb280 ∧ k_ ≠ gb288 ∧ k_ ≠ gb303 ∧ k_ ≠ gb311 ∧ k_ ≠ gb319 ∧ k_ ≠ gb327 ∧ k_ ≠ gb335 ∧ k_ ≠ gb343) (.slice Ao124 t312.length co124) t312) := ⟨by (with_reducible repeat (first | apply vA_ | apply vN_ | apply vD_)); exact hV_ (fV_ (p := ⟨gb343, 1, none⟩) (fV_ (p := ⟨gb343, 0, none⟩) (hV_ HO314.out (fun k_ hk => (⟨hk, hk.2⟩ : _ ∧ k_ ≠ gb343))) (fun _ hk => hk.2) (.slice Ao166 t336.length co166)) (fun _ hk => hk.2) (.slice Ao177 t339.length co177)) (fun _ hk => ⟨hk.1.1.1.1.1.1.2, ⟨hk.1.1.1.1.1.2, ⟨hk.1.1.1.2, ⟨hk.1.1.2, ⟨hk.1.1.1.1.1.1.1.1.1, ⟨hk.1.1.1.1.1.1.1.1.2.1, ⟨hk.1.1.1.1.1.1.1.1.2.2.1, ⟨hk.1.1.1.1.1.1.1.1.2.2.2.1, ⟨hk.1.1.1.1.1.1.1.1.2.2.2.2.1, ⟨hk.1.1.1.1.1.1.1.1.2.2.2.2.2.1, ⟨hk.1.1.1.1.1.1.1.1.2.2.2.2.2.2, ⟨hk.1.1.1.1.1.1.1.2, ⟨hk.1.1.1.1.2, hk.1.2⟩⟩⟩⟩⟩⟩⟩⟩⟩⟩⟩⟩⟩)⟩
              have n9_ : Aside0 (Kd.V k27 27 ((w165.setCell ⟨gb343, 0, none⟩ (.slice Ao166 t336.length co166)).setCell ⟨gb343, 1, none⟩ (.slice Ao177 t339.length co177)) w.heap.size (fun k_ => some k_ ≠ (.slice Ao152 t328.length co152 : Value).ownBlock ∧ some k_ ≠ (.slice Ao162 t331.length co162 : Value).ownBlock ∧ some k_ ≠ (.slice Ao166 t336.length co166 : Value).ownBlock ∧ some k_ ≠ (.slice Ao177 t339.length co177 : Value).ownBlock ∧ k_ ≠ gb269 ∧ k_ ≠ gb270 ∧ k_ ≠ gb280 ∧ k_ ≠ gb288 ∧ k_ ≠ gb303 ∧ k_ ≠ gb311 ∧ k_ ≠ gb319 ∧ k_ ≠ gb327 ∧ k_ ≠ gb335 ∧ k_ ≠ gb343) (.slice Ao132 t315.length co132) t315) := ⟨by (with_reducible repeat (first | apply vA_ | apply vN_ | apply vD_)); exact hV_ (fV_ (p := ⟨gb343, 1, none⟩) (fV_ (p := ⟨gb343, 0, none⟩) (hV_ HO317.out (fun k_ hk => (⟨hk, hk.2⟩ : _ ∧ k_ ≠ gb343))) (fun _ hk => hk.2) (.slice Ao166 t336.length co166)) (fun _ hk => hk.2) (.slice Ao177 t339.length co177)) (fun _ hk => ⟨hk.1.1.1.1.1.1.2, ⟨hk.1.1.1.1.1.2, ⟨hk.1.1.1.2, ⟨hk.1.1.2, ⟨hk.1.1.1.1.1.1.1.1.1, ⟨hk.1.1.1.1.1.1.1.1.2.1, ⟨hk.1.1.1.1.1.1.1.1.2.2.1, ⟨hk.1.1.1.1.1.1.1.1.2.2.2.1, ⟨hk.1.1.1.1.1.1.1.1.2.2.2.2.1, ⟨hk.1.1.1.1.1.1.1.1.2.2.2.2.2.1, ⟨hk.1.1.1.1.1.1.1.1.2.2.2.2.2.2, ⟨hk.1.1.1.1.1.1.1.2, ⟨hk.1.1.1.1.2, hk.1.2⟩⟩⟩⟩⟩⟩⟩⟩⟩⟩⟩⟩⟩)⟩
              have n10_ : Aside0 (Kd.V Kd.string 9 ((w165.setCell ⟨gb343, 0, none⟩ (.slice Ao166 t336.length co166)).setCell ⟨gb343, 1, none⟩ (.slice Ao177 t339.length co177)) w.heap.size (fun k_ => some k_ ≠ (.slice Ao152 t328.length co152 : Value).ownBlock ∧ some k_ ≠ (.slice Ao162 t331.length co162 : Value).ownBlock ∧ some k_ ≠ (.slice Ao166 t336.length co166 : Value).ownBlock ∧ some k_ ≠ (.slice Ao177 t339.length co177 : Value).ownBlock ∧ k_ ≠ gb269 ∧ k_ ≠ gb270 ∧ k_ ≠ gb280 ∧ k_ ≠ gb288 ∧ k_ ≠ gb303 ∧ k_ ≠ gb311 ∧ k_ ≠ gb319 ∧ k_ ≠ gb327 ∧ k_ ≠ gb335 ∧ k_ ≠ gb343) (.slice Ao137 t320.length co137) t320) := ⟨by (with_reducible repeat (first | apply vA_ | apply vN_ | apply vD_)); exact hV_ (fV_ (p := ⟨gb343, 1, none⟩) (fV_ (p := ⟨gb343, 0, none⟩) (hV_ HO322.out (fun k_ hk => (⟨hk, hk.2⟩ : _ ∧ k_ ≠ gb343))) (fun _ hk => hk.2) (.slice Ao166 t336.length co166)) (fun _ hk => hk.2) (.slice Ao177 t339.length co177)) (fun _ hk => ⟨hk.1.1.1.1.1.1.2, ⟨hk.1.1.1.1.1.2, ⟨hk.1.1.1.2, ⟨hk.1.1.2, ⟨hk.1.1.1.1.1.1.1.1.1, ⟨hk.1.1.1.1.1.1.1.1.2.1, ⟨hk.1.1.1.1.1.1.1.1.2.2.1, ⟨hk.1.1.1.1.1.1.1.1.2.2.2.1, ⟨hk.1.1.1.1.1.1.1.1.2.2.2.2.1, ⟨hk.1.1.1.1.1.1.1.1.2.2.2.2.2.1, ⟨hk.1.1.1.1.1.1.1.1.2.2.2.2.2.2, ⟨hk.1.1.1.1.1.1.1.2, ⟨hk.1.1.1.1.2, hk.1.2⟩⟩⟩⟩⟩⟩⟩⟩⟩⟩⟩⟩⟩)⟩
              have n11_ : Aside0 (Kd.V k27 27 ((w165.setCell ⟨gb343, 0, none⟩ (.slice Ao166 t336.length co166)).setCell ⟨gb343, 1, none⟩ (.slice Ao177 t339.length co177)) w.heap.size (fun k_ => some k_ ≠ (.slice Ao152 t328.length co152 : Value).ownBlock ∧ some k_ ≠ (.slice Ao162 t331.length co162 : Value).ownBlock ∧ some k_ ≠ (.slice Ao166 t336.length co166 : Value).ownBlock ∧ some k_ ≠ (.slice Ao177 t339.length co177 : Value).ownBlock ∧ k_ ≠ gb269 ∧ k_ ≠ gb270 ∧ k_ ≠ gb280 ∧ k_ ≠ gb288 ∧ k_ ≠ gb303 ∧ k_ ≠ gb311 ∧ k_ ≠ gb319 ∧ k_ ≠ gb327 ∧ k_ ≠ gb335 ∧ k_ ≠ gb343) (.slice Ao146 t323.length co146) t323) := ⟨by (with_reducible repeat (first | apply vA_ | apply vN_ | apply vD_)); exact hV_ (fV_ (p := ⟨gb343, 1, none⟩) (fV_ (p := ⟨gb343, 0, none⟩) (hV_ HO325.out (fun k_ hk => (⟨hk, hk.2⟩ : _ ∧ k_ ≠ gb343))) (fun _ hk => hk.2) (.slice Ao166 t336.length co166)) (fun _ hk => hk.2) (.slice Ao177 t339.length co177)) (fun _ hk => ⟨hk.1.1.1.1.1.1.2, ⟨hk.1.1.1.1.1.2, ⟨hk.1.1.1.2, ⟨hk.1.1.2, ⟨hk.1.1.1.1.1.1.1.1.1, ⟨hk.1.1.1.1.1.1.1.1.2.1, ⟨hk.1.1.1.1.1.1.1.1.2.2.1, ⟨hk.1.1.1.1.1.1.1.1.2.2.2.1, ⟨hk.1.1.1.1.1.1.1.1.2.2.2.2.1, ⟨hk.1.1.1.1.1.1.1.1.2.2.2.2.2.1, ⟨hk.1.1.1.1.1.1.1.1.2.2.2.2.2.2, ⟨hk.1.1.1.1.1.1.1.2, ⟨hk.1.1.1.1.2, hk.1.2⟩⟩⟩⟩⟩⟩⟩⟩⟩⟩⟩⟩⟩)⟩
              have n12_ : Aside0 (Kd.R Kd.string 9 ((w165.setCell ⟨gb343, 0, none⟩ (.slice Ao166 t336.length co166)).setCell ⟨gb343, 1, none⟩ (.slice Ao177 t339.length co177)) w.heap.size (fun k_ => some k_ ≠ (.slice Ao166 t336.length co166 : Value).ownBlock) (.slice Ao152 t328.length co152) t328) := ⟨by (with_reducible repeat (first | apply Kd.R_alloc | apply Kd.R_drewN | apply Kd.R_drew)); exact Kd.R_mono (Kd.R_far (p := ⟨gb343, 1, none⟩) (Kd.R_far (p := ⟨gb343, 0, none⟩) (Kd.R_types HO330.out BK343.out (by decide)) (fun _ hk => hk.2) (.slice Ao166 t336.length co166)) (fun _ hk => hk.2) (.slice Ao177 t339.length co177)) (fun _ hk => hk.1.2)⟩
              have n13_ : Aside0 (Kd.R k27 27 ((w165.setCell ⟨gb343, 0, none⟩ (.slice Ao166 t336.length co166)).setCell ⟨gb343, 1, none⟩ (.slice Ao177 t339.length co177)) w.heap.size (fun k_ => some k_ ≠ (.slice Ao177 t339.length co177 : Value).ownBlock ∧ k_ ≠ gb270) (.slice Ao162 t331.length co162) t331) := ⟨by (with_reducible repeat (first | apply Kd.R_alloc | apply Kd.R_drewN | apply Kd.R_drew)); exact Kd.R_mono (Kd.R_far (p := ⟨gb343, 1, none⟩) (Kd.R_far (p := ⟨gb343, 0, none⟩) (Kd.R_types HO333.out BK343.out (by decide)) (fun _ hk => hk.2) (.slice Ao166 t336.length co166)) (fun _ hk => hk.2) (.slice Ao177 t339.length co177)) (fun _ hk => ⟨hk.1.2, hk.1.1.2⟩)⟩
              have n14_ : Aside0 (Kd.R Kd.string 9 ((w165.setCell ⟨gb343, 0, none⟩ (.slice Ao166 t336.length co166)).setCell ⟨gb343, 1, none⟩ (.slice Ao177 t339.length co177)) w.heap.size (fun k_ => some k_ ≠ (.slice Ao152 t328.length co152 : Value).ownBlock) (.slice Ao166 t336.length co166) t336) := ⟨by (with_reducible repeat (first | apply Kd.R_alloc | apply Kd.R_drewN | apply Kd.R_drew)); exact Kd.R_mono (Kd.R_far (p := ⟨gb343, 1, none⟩) (Kd.R_far (p := ⟨gb343, 0, none⟩) (Kd.R_types HO338.out BK343.out (by decide)) (fun _ hk => hk.2) (.slice Ao166 t336.length co166)) (fun _ hk => hk.2) (.slice Ao177 t339.length co177)) (fun _ hk => hk.1.2)⟩
              have n15_ : Aside0 (Kd.R k27 27 ((w165.setCell ⟨gb343, 0, none⟩ (.slice Ao166 t336.length co166)).setCell ⟨gb343, 1, none⟩ (.slice Ao177 t339.length co177)) w.heap.size (fun k_ => some k_ ≠ (.slice Ao162 t331.length co162 : Value).ownBlock ∧ k_ ≠ gb270) (.slice Ao177 t339.length co177) t339) := ⟨by (with_reducible repeat (first | apply Kd.R_alloc | apply Kd.R_drewN | apply Kd.R_drew)); exact Kd.R_mono (Kd.R_far (p := ⟨gb343, 1, none⟩) (Kd.R_far (p := ⟨gb343, 0, none⟩) (Kd.R_types HO341.out BK343.out (by decide)) (fun _ hk => hk.2) (.slice Ao166 t336.length co166)) (fun _ hk => hk.2) (.slice Ao177 t339.length co177)) (fun _ hk => ⟨hk.1.1.2, hk.1.2⟩)⟩
              have n16_ : Aside0 (((w165.setCell ⟨gb343, 0, none⟩ (.slice Ao166 t336.length co166)).setCell ⟨gb343, 1, none⟩ (.slice Ao177 t339.length co177)).heap[gb269]? = some (.cells #[.slice A0_0 l0_0.length c0_0, .slice A0_1 l0_1.length c0_1] 25 (0, 0))) := ⟨by (with_reducible repeat (first | apply xN_ | apply xD_ | apply xA_)); refine xR_ ?_ NB269_343.out _; refine xR_ ?_ NB269_343.out _; (with_reducible repeat (first | apply xN_ | apply xD_ | apply xA_)); exact BK269.out⟩
              have n17_ : Aside0 (((w165.setCell ⟨gb343, 0, none⟩ (.slice Ao166 t336.length co166)).setCell ⟨gb343, 1, none⟩ (.slice Ao177 t339.length co177)).heap[gb270]? = some (.cells #[.int .i64 a1_0, .string a1_1] 27 (0, 0))) := ⟨by (with_reducible repeat (first | apply xN_ | apply xD_ | apply xA_)); refine xR_ ?_ NB270_343.out _; refine xR_ ?_ NB270_343.out _; (with_reducible repeat (first | apply xN_ | apply xD_ | apply xA_)); exact BK270.out⟩
              have n18_ : Aside0 (((w165.setCell ⟨gb343, 0, none⟩ (.slice Ao166 t336.length co166)).setCell ⟨gb343, 1, none⟩ (.slice Ao177 t339.length co177)).heap[gb280]? = some (.cells #[.slice Ao34 t273.length co34, .slice Ao38 t276.length co38] 25 (0, 0))) := ⟨by (with_reducible repeat (first | apply xN_ | apply xD_ | apply xA_)); refine xR_ ?_ NB280_343.out _; refine xR_ ?_ NB280_343.out _; (with_reducible repeat (first | apply xN_ | apply xD_ | apply xA_)); exact BK280.out⟩
              have n19_ : Aside0 (((w165.setCell ⟨gb343, 0, none⟩ (.slice Ao166 t336.length co166)).setCell ⟨gb343, 1, none⟩ (.slice Ao177 t339.length co177)).heap[gb288]? = some (.cells #[.slice Ao44 t281.length co44, .slice Ao49 t284.length co49] 25 (0, 0))) := ⟨by (with_reducible repeat (first | apply xN_ | apply xD_ | apply xA_)); refine xR_ ?_ NB288_343.out _; refine xR_ ?_ NB288_343.out _; (with_reducible repeat (first | apply xN_ | apply xD_ | apply xA_)); exact BK288.out⟩
              have n20_ : Aside0 (((w165.setCell ⟨gb343, 0, none⟩ (.slice Ao166 t336.length co166)).setCell ⟨gb343, 1, none⟩ (.slice Ao177 t339.length co177)).heap[gb303]? = some (.cells #[.slice Ao101 t296.length co101, .slice Ao107 t299.length co107] 25 (0, 0))) := ⟨by (with_reducible repeat (first | apply xN_ | apply xD_ | apply xA_)); refine xR_ ?_ NB303_343.out _; refine xR_ ?_ NB303_343.out _; (with_reducible repeat (first | apply xN_ | apply xD_ | apply xA_)); exact BK303.out⟩
              have n21_ : Aside0 (((w165.setCell ⟨gb343, 0, none⟩ (.slice Ao166 t336.length co166)).setCell ⟨gb343, 1, none⟩ (.slice Ao177 t339.length co177)).heap[gb311]? = some (.cells #[.slice Ao112 t304.length co112, .slice Ao119 t307.length co119] 25 (0, 0))) := ⟨by (with_reducible repeat (first | apply xN_ | apply xD_ | apply xA_)); refine xR_ ?_ NB311_343.out _; refine xR_ ?_ NB311_343.out _; (with_reducible repeat (first | apply xN_ | apply xD_ | apply xA_)); exact BK311.out⟩
              have n22_ : Aside0 (((w165.setCell ⟨gb343, 0, none⟩ (.slice Ao166 t336.length co166)).setCell ⟨gb343, 1, none⟩ (.slice Ao177 t339.length co177)).heap[gb319]? = some (.cells #[.slice Ao124 t312.length co124, .slice Ao132 t315.length co132] 25 (0, 0))) := ⟨by (with_reducible repeat (first | apply xN_ | apply xD_ | apply xA_)); refine xR_ ?_ NB319_343.out _; refine xR_ ?_ NB319_343.out _; (with_reducible repeat (first | apply xN_ | apply xD_ | apply xA_)); exact BK319.out⟩
              have n23_ : Aside0 (((w165.setCell ⟨gb343, 0, none⟩ (.slice Ao166 t336.length co166)).setCell ⟨gb343, 1, none⟩ (.slice Ao177 t339.length co177)).heap[gb327]? = some (.cells #[.slice Ao137 t320.length co137, .slice Ao146 t323.length co146] 25 (0, 0))) := ⟨by (with_reducible repeat (first | apply xN_ | apply xD_ | apply xA_)); refine xR_ ?_ NB327_343.out _; refine xR_ ?_ NB327_343.out _; (with_reducible repeat (first | apply xN_ | apply xD_ | apply xA_)); exact BK327.out⟩
              have n24_ : Aside0 (((w165.setCell ⟨gb343, 0, none⟩ (.slice Ao166 t336.length co166)).setCell ⟨gb343, 1, none⟩ (.slice Ao177 t339.length co177)).heap[gb335]? = some (.cells #[.slice Ao152 t328.length co152, .slice Ao162 t331.length co162] 25 (0, 0))) := ⟨by (with_reducible repeat (first | apply xN_ | apply xD_ | apply xA_)); refine xR_ ?_ NB335_343.out _; refine xR_ ?_ NB335_343.out _; (with_reducible repeat (first | apply xN_ | apply xD_ | apply xA_)); exact BK335.out⟩
              have n25_ : Aside0 (((w165.setCell ⟨gb343, 0, none⟩ (.slice Ao166 t336.length co166)).setCell ⟨gb343, 1, none⟩ (.slice Ao177 t339.length co177)).heap[gb343]? = some (.cells #[.slice Ao166 t336.length co166, .slice Ao177 t339.length co177] 25 (0, 0))) := ⟨by (with_reducible repeat (first | apply xN_ | apply xD_ | apply xA_)); refine blk_put (cs := #[.slice Ao166 t336.length co166, .slice none 0 0]) ?_ 1 _ rfl; refine blk_put (cs := #[.slice none 0 0, .slice none 0 0]) ?_ 0 _ rfl; (with_reducible repeat (first | apply xN_ | apply xD_ | apply xA_)); exact BK343.out⟩
              have n26_ : Aside0 (Below w.heap.size w ((w165.setCell ⟨gb343, 0, none⟩ (.slice Ao166 t336.length co166)).setCell ⟨gb343, 1, none⟩ (.slice Ao177 t339.length co177))) := ⟨by repeat (first | (with_reducible first | exact HB.out | apply yA_ | apply yN_ | apply yD_ | refine yS_ ?_ GE269.out | refine yS_ ?_ GE270.out | refine yS_ ?_ GE280.out | refine yS_ ?_ GE288.out | refine yS_ ?_ GE303.out | refine yS_ ?_ GE311.out | refine yS_ ?_ GE319.out | refine yS_ ?_ GE327.out | refine yS_ ?_ GE335.out | refine yS_ ?_ GE343.out) | exact HB.out)⟩
              (try clear HO_281000)
              (try clear HO_281001)
              (try clear HO_289000)
              (try clear HO_289001)
              (try clear HO298)
              (try clear HO301)
              (try clear HO306)
              (try clear HO309)
              (try clear HO314)
              (try clear HO317)
              (try clear HO322)
              (try clear HO325)
              (try clear HO330)
              (try clear HO333)
              (try clear HO338)
              (try clear HO341)
              (try clear BK269)
              (try clear BK270)
              (try clear BK280)
              (try clear BK288)
              (try clear BK303)
              (try clear BK311)
              (try clear BK319)
              (try clear BK327)
              (try clear BK335)
              (try clear BK343)
              (try clear HB)
              generalize ((w165.setCell ⟨gb343, 0, none⟩ (.slice Ao166 t336.length co166)).setCell ⟨gb343, 1, none⟩ (.slice Ao177 t339.length co177)) = w178 at n0_ n1_ n2_ n3_ n4_ n5_ n6_ n7_ n8_ n9_ n10_ n11_ n12_ n13_ n14_ n15_ n16_ n17_ n18_ n19_ n20_ n21_ n22_ n23_ n24_ n25_ n26_ ⊢
              have HO_281000 := n0_
              have HO_281001 := n1_
              have HO_289000 := n2_
              have HO_289001 := n3_
              have HO298 := n4_
              have HO301 := n5_
              have HO306 := n6_
              have HO309 := n7_
              have HO314 := n8_
              have HO317 := n9_
              have HO322 := n10_
              have HO325 := n11_
              have HO330 := n12_
              have HO333 := n13_
              have HO338 := n14_
              have HO341 := n15_
              have BK269 := n16_
              have BK270 := n17_
              have BK280 := n18_
              have BK288 := n19_
              have BK303 := n20_
              have BK311 := n21_
              have BK319 := n22_
              have BK327 := n23_
              have BK335 := n24_
              have BK343 := n25_
              have HB := n26_
              clear n0_ n1_ n2_ n3_ n4_ n5_ n6_ n7_ n8_ n9_ n10_ n11_ n12_ n13_ n14_ n15_ n16_ n17_ n18_ n19_ n20_ n21_ n22_ n23_ n24_ n25_ n26_
              replace HO_281000 := aM_ (vD_ HO_281000.out)
              replace HO_281001 := aM_ (vD_ HO_281001.out)
              replace HO_289000 := aM_ (vD_ HO_289000.out)
              replace HO_289001 := aM_ (vD_ HO_289001.out)
              replace HO298 := aM_ (vD_ HO298.out)
              replace HO301 := aM_ (vD_ HO301.out)
              replace HO306 := aM_ (vD_ HO306.out)
              replace HO309 := aM_ (vD_ HO309.out)
              replace HO314 := aM_ (vD_ HO314.out)
              replace HO317 := aM_ (vD_ HO317.out)
              replace HO322 := aM_ (vD_ HO322.out)
              replace HO325 := aM_ (vD_ HO325.out)
              replace HO330 := aM_ (Kd.R_drew HO330.out)
              replace HO333 := aM_ (Kd.R_drew HO333.out)
              replace HO338 := aM_ (Kd.R_drew HO338.out)
              replace HO341 := aM_ (Kd.R_drew HO341.out)
              replace BK269 := aM_ (xD_ BK269.out)
              replace BK270 := aM_ (xD_ BK270.out)
              replace BK280 := aM_ (xD_ BK280.out)
              replace BK288 := aM_ (xD_ BK288.out)
              replace BK303 := aM_ (xD_ BK303.out)
              replace BK311 := aM_ (xD_ BK311.out)
              replace BK319 := aM_ (xD_ BK319.out)
              replace BK327 := aM_ (xD_ BK327.out)
              replace BK335 := aM_ (xD_ BK335.out)
              replace BK343 := aM_ (xD_ BK343.out)
              replace HB := aM_ (yD_ HB.out)
              refine start_ (n := 41) (S := fun w' => w'.cell? ⟨gb303, 0, none⟩ = some (.slice Ao101 t296.length co101) ∧ w'.cell? ⟨gb303, 1, none⟩ = some (.slice Ao107 t299.length co107) ∧ w'.cell? ⟨gb311, 0, none⟩ = some (.slice Ao112 t304.length co112) ∧ w'.cell? ⟨gb311, 1, none⟩ = some (.slice Ao119 t307.length co119) ∧ w'.cell? ⟨gb319, 0, none⟩ = some (.slice Ao124 t312.length co124) ∧ w'.cell? ⟨gb319, 1, none⟩ = some (.slice Ao132 t315.length co132) ∧ w'.cell? ⟨gb327, 0, none⟩ = some (.slice Ao137 t320.length co137) ∧ w'.cell? ⟨gb327, 1, none⟩ = some (.slice Ao146 t323.length co146) ∧ w'.cell? ⟨gb335, 0, none⟩ = some (.slice Ao152 t328.length co152) ∧ w'.cell? ⟨gb335, 1, none⟩ = some (.slice Ao162 t331.length co162) ∧ w'.cell? ⟨gb343, 0, none⟩ = some (.slice Ao166 t336.length co166) ∧ w'.cell? ⟨gb343, 1, none⟩ = some (.slice Ao177 t339.length co177) ∧ w'.cell? ⟨gb269, 0, none⟩ = some (.slice A0_0 l0_0.length c0_0) ∧ w'.cell? ⟨gb269, 1, none⟩ = some (.slice A0_1 l0_1.length c0_1) ∧ w'.cell? ⟨gb280, 0, none⟩ = some (.slice Ao34 t273.length co34) ∧ w'.cell? ⟨gb280, 1, none⟩ = some (.slice Ao38 t276.length co38)) (ds := []) #[F_,F_,F_,F_,F_,F_,F_,F_,F_,F_,F_,F_,F_,F_,F_,F_,F_,F_,F_,F_,F_,F_,F_,F_,F_,F_,F_,F_,F_,F_,F_,F_,F_,F_,F_,F_,F_,F_,F_,F_,F_] (by kernel_rfl) rfl rfl ⟨(xC_ BK303.out 0).trans rfl, (xC_ BK303.out 1).trans rfl, (xC_ BK311.out 0).trans rfl, (xC_ BK311.out 1).trans rfl, (xC_ BK319.out 0).trans rfl, (xC_ BK319.out 1).trans rfl, (xC_ BK327.out 0).trans rfl, (xC_ BK327.out 1).trans rfl, (xC_ BK335.out 0).trans rfl, (xC_ BK335.out 1).trans rfl, (xC_ BK343.out 0).trans rfl, (xC_ BK343.out 1).trans rfl, (xC_ BK269.out 0).trans rfl, (xC_ BK269.out 1).trans rfl, (xC_ BK280.out 0).trans rfl, (xC_ BK280.out 1).trans rfl⟩ (fun hHeld => ?_); refine with_tabW armadalaw01_DiskTells.tab15 armadalaw01_DiskTells.bits15 (fun HT_ HW_ => ?_)
              generalize w178.drew = w179 at HO_281000 HO_281001 HO_289000 HO_289001 HO298 HO301 HO306 HO309 HO314 HO317 HO322 HO325 HO330 HO333 HO338 HO341 BK269 BK270 BK280 BK288 BK303 BK311 BK319 BK327 BK335 BK343 HB hHeld ⊢
              refine take_ (i := 0) (N := some 134) (v := ?_) (a' := ?_) #[T_,F_,F_,F_,F_,F_,F_,F_,F_,F_,F_,F_,F_,F_,F_,F_,F_,F_,F_,F_,F_,F_,F_,F_,F_,F_,F_,F_,F_,F_,F_,F_,F_,F_,F_,F_,F_,F_,F_,F_,F_] rfl rfl (take_ofW HT_.out HW_.out (by kernel_rfl)) (fun _ _ _ h => h) (Or.inl ⟨by rfl, ?_⟩) hHeld ?_ ?_
              rotate_left
              ·rintro w' ⟨s0, s1, s2, s3, s4, s5, s6, s7, s8, s9, s10, s11, s12, s13, s14, s15⟩
               go_simp
               with_reducible rfl
              rotate_left; ·simp only [Act.put, sA_,sZ_,sS_, i64_w, i32_w]; rfl
              refine take_ (i := 1) (N := some 135) (v := ?_) (a' := ?_) #[T_,T_,F_,F_,F_,F_,F_,F_,F_,F_,F_,F_,F_,F_,F_,F_,F_,F_,F_,F_,F_,F_,F_,F_,F_,F_,F_,F_,F_,F_,F_,F_,F_,F_,F_,F_,F_,F_,F_,F_,F_] rfl rfl (take_ofW HT_.out HW_.out (by kernel_rfl)) (fun _ _ _ h => h) (Or.inl ⟨by rfl, ?_⟩) hHeld ?_ ?_
              rotate_left
              ·rintro w' ⟨s0, s1, s2, s3, s4, s5, s6, s7, s8, s9, s10, s11, s12, s13, s14, s15⟩
               go_simp
               with_reducible rfl
              rotate_left; ·simp only [Act.put, sA_,sZ_,sS_, i64_w, i32_w]; rfl
              refine one_ (i := 2) (N := some 136) #[T_,T_,T_,F_,F_,F_,F_,F_,F_,F_,F_,F_,F_,F_,F_,F_,F_,F_,F_,F_,F_,F_,F_,F_,F_,F_,F_,F_,F_,F_,F_,F_,F_,F_,F_,F_,F_,F_,F_,F_,F_] rfl rfl (one_of HT_.out (by kernel_rfl)) (by decide) (fun K hK => ?_)
              refine goes_ Try.func15 (by kernel_rfl) rfl #[.agg #[.slice Ao101 t296.length co101, .slice Ao107 t299.length co107], .agg #[.slice Ao112 t304.length co112, .slice Ao119 t307.length co119]] (by rfl) rfl rfl (by (try simp only [List.map_toArray, List.map_cons, List.map_nil]); first | done | rfl) ?_
              with_reducible refine (armadaref01_Same.calls kj27 _ _ t296 _ _ t299 _ _ t304 _ _ t307 true _ ?side1 ?side2 ?side3 ?side4 ?side5 ?side6 ?side7 ?side8 A82.out).mono ?_
              (case side1 => repeat (first | exact (Kd.V_reads' HO298.out).2.2 | (with_reducible refine Kd.C_alloc ?_ _) | (with_reducible refine Kd.C_drewN ?_ _) | (with_reducible refine Kd.C_drew ?_)))
              (case side2 => exact (Kd.V_reads' HO298.out).2.1)
              (case side3 => repeat (first | exact (Kd.V_reads' HO301.out).2.2 | (with_reducible refine Kd.C_alloc ?_ _) | (with_reducible refine Kd.C_drewN ?_ _) | (with_reducible refine Kd.C_drew ?_)))
              (case side4 => exact (Kd.V_reads' HO301.out).2.1)
              (case side5 => repeat (first | exact (Kd.V_reads' HO306.out).2.2 | (with_reducible refine Kd.C_alloc ?_ _) | (with_reducible refine Kd.C_drewN ?_ _) | (with_reducible refine Kd.C_drew ?_)))
              (case side6 => exact (Kd.V_reads' HO306.out).2.1)
              (case side7 => repeat (first | exact (Kd.V_reads' HO309.out).2.2 | (with_reducible refine Kd.C_alloc ?_ _) | (with_reducible refine Kd.C_drewN ?_ _) | (with_reducible refine Kd.C_drew ?_)))
              (case side8 => exact (Kd.V_reads' HO309.out).2.1)
              rintro e w180 ⟨rfl, hb⟩
              refine ⟨_, rfl, ?_⟩
              have hz_ := zq HB (by repeat (first | (with_reducible first | exact Below.refl _ _ | apply yA_ | apply yN_ | apply yD_) | exact Below.refl _ _)) hb
              replace hb := below_step hz_ hb
              replace HO_281000 := zV HO_281000 hb
              replace HO_281001 := zV HO_281001 hb
              replace HO_289000 := zV HO_289000 hb
              replace HO_289001 := zV HO_289001 hb
              replace HO298 := zV HO298 hb
              replace HO301 := zV HO301 hb
              replace HO306 := zV HO306 hb
              replace HO309 := zV HO309 hb
              replace HO314 := zV HO314 hb
              replace HO317 := zV HO317 hb
              replace HO322 := zV HO322 hb
              replace HO325 := zV HO325 hb
              replace HO330 := zR HO330 hb
              replace HO333 := zR HO333 hb
              replace HO338 := zR HO338 hb
              replace HO341 := zR HO341 hb
              replace BK269 := zB BK269 hb
              replace BK270 := zB BK270 hb
              replace BK280 := zB BK280 hb
              replace BK288 := zB BK288 hb
              replace BK303 := zB BK303 hb
              replace BK311 := zB BK311 hb
              replace BK319 := zB BK319 hb
              replace BK327 := zB BK327 hb
              replace BK335 := zB BK335 hb
              replace BK343 := zB BK343 hb
              replace HB := zH HB hb
              clear hz_
              (try clear hb)
              (try clear hb2)
              (try clear hk)
              (try clear hi)
              refine hK.out _ _ ⟨(xC_ BK303.out 0).trans rfl, (xC_ BK303.out 1).trans rfl, (xC_ BK311.out 0).trans rfl, (xC_ BK311.out 1).trans rfl, (xC_ BK319.out 0).trans rfl, (xC_ BK319.out 1).trans rfl, (xC_ BK327.out 0).trans rfl, (xC_ BK327.out 1).trans rfl, (xC_ BK335.out 0).trans rfl, (xC_ BK335.out 1).trans rfl, (xC_ BK343.out 0).trans rfl, (xC_ BK343.out 1).trans rfl, (xC_ BK269.out 0).trans rfl, (xC_ BK269.out 1).trans rfl, (xC_ BK280.out 0).trans rfl, (xC_ BK280.out 1).trans rfl⟩ (fun hHeld => ?_)
              clear hK K
              refine norm_ (a' := ?_) ?_ ?_
              rotate_left
              ·show Act.put _ (some 136) _ = _
               simp only [Act.put, sA_,sZ_,sS_, i64_w, i32_w]
               rfl
              refine pure_ (i := 3) (N := some 137) (v := ?_) (a' := ?_) #[T_,T_,T_,T_,F_,F_,F_,F_,F_,F_,F_,F_,F_,F_,F_,F_,F_,F_,F_,F_,F_,F_,F_,F_,F_,F_,F_,F_,F_,F_,F_,F_,F_,F_,F_,F_,F_,F_,F_,F_,F_] rfl rfl (any_of HT_.out (by kernel_rfl)) (fun _ _ _ h => h) (Or.inl ⟨by rfl, ?_⟩) ?_ ?_
              rotate_left; ·intro w'; go_simp; with_reducible rfl
              rotate_left; ·simp only [Act.put, sA_,sZ_,sS_, i64_w, i32_w]; rfl
              refine pure_ (i := 4) (N := some 138) (v := ?_) (a' := ?_) #[T_,T_,T_,T_,T_,F_,F_,F_,F_,F_,F_,F_,F_,F_,F_,F_,F_,F_,F_,F_,F_,F_,F_,F_,F_,F_,F_,F_,F_,F_,F_,F_,F_,F_,F_,F_,F_,F_,F_,F_,F_] rfl rfl (any_of HT_.out (by kernel_rfl)) (fun _ _ _ h => h) (Or.inl ⟨by rfl, ?_⟩) ?_ ?_
              rotate_left; ·intro w'; go_simp; with_reducible rfl
              rotate_left; ·simp only [Act.put, sA_,sZ_,sS_, i64_w, i32_w]; rfl
              refine pure_ (i := 5) (N := some 139) (v := ?_) (a' := ?_) #[T_,T_,T_,T_,T_,T_,F_,F_,F_,F_,F_,F_,F_,F_,F_,F_,F_,F_,F_,F_,F_,F_,F_,F_,F_,F_,F_,F_,F_,F_,F_,F_,F_,F_,F_,F_,F_,F_,F_,F_,F_] rfl rfl (any_of HT_.out (by kernel_rfl)) (fun _ _ _ h => h) (Or.inl ⟨by rfl, ?_⟩) ?_ ?_
              rotate_left; ·intro w'; go_simp; with_reducible rfl
              rotate_left; ·simp only [Act.put, sA_,sZ_,sS_, i64_w, i32_w]; rfl
              refine pure_ (i := 6) (N := some 140) (v := ?_) (a' := ?_) #[T_,T_,T_,T_,T_,T_,T_,F_,F_,F_,F_,F_,F_,F_,F_,F_,F_,F_,F_,F_,F_,F_,F_,F_,F_,F_,F_,F_,F_,F_,F_,F_,F_,F_,F_,F_,F_,F_,F_,F_,F_] rfl rfl (any_of HT_.out (by kernel_rfl)) (fun _ _ _ h => h) (Or.inl ⟨by rfl, ?_⟩) ?_ ?_
              rotate_left; ·intro w'; go_simp; with_reducible rfl
              rotate_left; ·simp only [Act.put, sA_,sZ_,sS_, i64_w, i32_w]; rfl
              refine pure_ (i := 7) (N := some 141) (v := ?_) (a' := ?_) #[T_,T_,T_,T_,T_,T_,T_,T_,F_,F_,F_,F_,F_,F_,F_,F_,F_,F_,F_,F_,F_,F_,F_,F_,F_,F_,F_,F_,F_,F_,F_,F_,F_,F_,F_,F_,F_,F_,F_,F_,F_] rfl rfl (any_of HT_.out (by kernel_rfl)) (fun _ _ _ h => h) (Or.inl ⟨by rfl, ?_⟩) ?_ ?_
              rotate_left; ·intro w'; go_simp; with_reducible rfl
              rotate_left; ·simp only [Act.put, sA_,sZ_,sS_, i64_w, i32_w]; rfl
              refine pure_ (i := 8) (N := some 142) (v := ?_) (a' := ?_) #[T_,T_,T_,T_,T_,T_,T_,T_,T_,F_,F_,F_,F_,F_,F_,F_,F_,F_,F_,F_,F_,F_,F_,F_,F_,F_,F_,F_,F_,F_,F_,F_,F_,F_,F_,F_,F_,F_,F_,F_,F_] rfl rfl (any_of HT_.out (by kernel_rfl)) (fun _ _ _ h => h) (Or.inl ⟨by rfl, ?_⟩) ?_ ?_
              rotate_left; ·intro w'; go_simp; with_reducible rfl
              rotate_left; ·simp only [Act.put, sA_,sZ_,sS_, i64_w, i32_w]; rfl
              refine take_ (i := 9) (N := some 143) (v := ?_) (a' := ?_) #[T_,T_,T_,T_,T_,T_,T_,T_,T_,T_,F_,F_,F_,F_,F_,F_,F_,F_,F_,F_,F_,F_,F_,F_,F_,F_,F_,F_,F_,F_,F_,F_,F_,F_,F_,F_,F_,F_,F_,F_,F_] rfl rfl (take_ofW HT_.out HW_.out (by kernel_rfl)) (fun _ _ _ h => h) (Or.inl ⟨by rfl, ?_⟩) hHeld ?_ ?_
              rotate_left
              ·rintro w' ⟨s0, s1, s2, s3, s4, s5, s6, s7, s8, s9, s10, s11, s12, s13, s14, s15⟩
               go_simp
               with_reducible rfl
              rotate_left; ·simp only [Act.put, sA_,sZ_,sS_, i64_w, i32_w]; rfl
              refine take_ (i := 10) (N := some 144) (v := ?_) (a' := ?_) #[T_,T_,T_,T_,T_,T_,T_,T_,T_,T_,T_,F_,F_,F_,F_,F_,F_,F_,F_,F_,F_,F_,F_,F_,F_,F_,F_,F_,F_,F_,F_,F_,F_,F_,F_,F_,F_,F_,F_,F_,F_] rfl rfl (take_ofW HT_.out HW_.out (by kernel_rfl)) (fun _ _ _ h => h) (Or.inl ⟨by rfl, ?_⟩) hHeld ?_ ?_
              rotate_left
              ·rintro w' ⟨s0, s1, s2, s3, s4, s5, s6, s7, s8, s9, s10, s11, s12, s13, s14, s15⟩
               go_simp
               with_reducible rfl
              rotate_left; ·simp only [Act.put, sA_,sZ_,sS_, i64_w, i32_w]; rfl
              refine one_ (i := 11) (N := some 145) #[T_,T_,T_,T_,T_,T_,T_,T_,T_,T_,T_,T_,F_,F_,F_,F_,F_,F_,F_,F_,F_,F_,F_,F_,F_,F_,F_,F_,F_,F_,F_,F_,F_,F_,F_,F_,F_,F_,F_,F_,F_] rfl rfl (one_of HT_.out (by kernel_rfl)) (by decide) (fun K hK => ?_)
              refine goes_ Try.func15 (by kernel_rfl) rfl #[.agg #[.slice Ao124 t312.length co124, .slice Ao132 t315.length co132], .agg #[.slice Ao137 t320.length co137, .slice Ao146 t323.length co146]] (by rfl) rfl rfl (by (try simp only [List.map_toArray, List.map_cons, List.map_nil]); first | done | rfl) ?_
              with_reducible refine (armadaref01_Same.calls kj27 _ _ t312 _ _ t315 _ _ t320 _ _ t323 true _ ?side1 ?side2 ?side3 ?side4 ?side5 ?side6 ?side7 ?side8 A85.out).mono ?_
              (case side1 => repeat (first | exact (Kd.V_reads' HO314.out).2.2 | (with_reducible refine Kd.C_alloc ?_ _) | (with_reducible refine Kd.C_drewN ?_ _) | (with_reducible refine Kd.C_drew ?_)))
              (case side2 => exact (Kd.V_reads' HO314.out).2.1)
              (case side3 => repeat (first | exact (Kd.V_reads' HO317.out).2.2 | (with_reducible refine Kd.C_alloc ?_ _) | (with_reducible refine Kd.C_drewN ?_ _) | (with_reducible refine Kd.C_drew ?_)))
              (case side4 => exact (Kd.V_reads' HO317.out).2.1)
              (case side5 => repeat (first | exact (Kd.V_reads' HO322.out).2.2 | (with_reducible refine Kd.C_alloc ?_ _) | (with_reducible refine Kd.C_drewN ?_ _) | (with_reducible refine Kd.C_drew ?_)))
              (case side6 => exact (Kd.V_reads' HO322.out).2.1)
              (case side7 => repeat (first | exact (Kd.V_reads' HO325.out).2.2 | (with_reducible refine Kd.C_alloc ?_ _) | (with_reducible refine Kd.C_drewN ?_ _) | (with_reducible refine Kd.C_drew ?_)))
              (case side8 => exact (Kd.V_reads' HO325.out).2.1)
              rintro e w181 ⟨rfl, hb⟩
              refine ⟨_, rfl, ?_⟩
              have hz_ := zq HB (by repeat (first | (with_reducible first | exact Below.refl _ _ | apply yA_ | apply yN_ | apply yD_) | exact Below.refl _ _)) hb
              replace hb := below_step hz_ hb
              replace HO_281000 := zV HO_281000 hb
              replace HO_281001 := zV HO_281001 hb
              replace HO_289000 := zV HO_289000 hb
              replace HO_289001 := zV HO_289001 hb
              replace HO298 := zV HO298 hb
              replace HO301 := zV HO301 hb
              replace HO306 := zV HO306 hb
              replace HO309 := zV HO309 hb
              replace HO314 := zV HO314 hb
              replace HO317 := zV HO317 hb
              replace HO322 := zV HO322 hb
              replace HO325 := zV HO325 hb
              replace HO330 := zR HO330 hb
              replace HO333 := zR HO333 hb
              replace HO338 := zR HO338 hb
              replace HO341 := zR HO341 hb
              replace BK269 := zB BK269 hb
              replace BK270 := zB BK270 hb
              replace BK280 := zB BK280 hb
              replace BK288 := zB BK288 hb
              replace BK303 := zB BK303 hb
              replace BK311 := zB BK311 hb
              replace BK319 := zB BK319 hb
              replace BK327 := zB BK327 hb
              replace BK335 := zB BK335 hb
              replace BK343 := zB BK343 hb
              replace HB := zH HB hb
              clear hz_
              (try clear hb)
              (try clear hb2)
              (try clear hk)
              (try clear hi)
              refine hK.out _ _ ⟨(xC_ BK303.out 0).trans rfl, (xC_ BK303.out 1).trans rfl, (xC_ BK311.out 0).trans rfl, (xC_ BK311.out 1).trans rfl, (xC_ BK319.out 0).trans rfl, (xC_ BK319.out 1).trans rfl, (xC_ BK327.out 0).trans rfl, (xC_ BK327.out 1).trans rfl, (xC_ BK335.out 0).trans rfl, (xC_ BK335.out 1).trans rfl, (xC_ BK343.out 0).trans rfl, (xC_ BK343.out 1).trans rfl, (xC_ BK269.out 0).trans rfl, (xC_ BK269.out 1).trans rfl, (xC_ BK280.out 0).trans rfl, (xC_ BK280.out 1).trans rfl⟩ (fun hHeld => ?_)
              clear hK K
              refine norm_ (a' := ?_) ?_ ?_
              rotate_left
              ·show Act.put _ (some 145) _ = _
               simp only [Act.put, sA_,sZ_,sS_, i64_w, i32_w]
               rfl
              refine pure_ (i := 12) (N := some 146) (v := ?_) (a' := ?_) #[T_,T_,T_,T_,T_,T_,T_,T_,T_,T_,T_,T_,T_,F_,F_,F_,F_,F_,F_,F_,F_,F_,F_,F_,F_,F_,F_,F_,F_,F_,F_,F_,F_,F_,F_,F_,F_,F_,F_,F_,F_] rfl rfl (any_of HT_.out (by kernel_rfl)) (fun _ _ _ h => h) (Or.inl ⟨by rfl, ?_⟩) ?_ ?_
              rotate_left; ·intro w'; go_simp; with_reducible rfl
              rotate_left; ·simp only [Act.put, sA_,sZ_,sS_, i64_w, i32_w]; rfl
              refine pure_ (i := 13) (N := some 147) (v := ?_) (a' := ?_) #[T_,T_,T_,T_,T_,T_,T_,T_,T_,T_,T_,T_,T_,T_,F_,F_,F_,F_,F_,F_,F_,F_,F_,F_,F_,F_,F_,F_,F_,F_,F_,F_,F_,F_,F_,F_,F_,F_,F_,F_,F_] rfl rfl (any_of HT_.out (by kernel_rfl)) (fun _ _ _ h => h) (Or.inl ⟨by rfl, ?_⟩) ?_ ?_
              rotate_left; ·intro w'; go_simp; with_reducible rfl
              rotate_left; ·simp only [Act.put, sA_,sZ_,sS_, i64_w, i32_w]; rfl
              refine pure_ (i := 14) (N := some 148) (v := ?_) (a' := ?_) #[T_,T_,T_,T_,T_,T_,T_,T_,T_,T_,T_,T_,T_,T_,T_,F_,F_,F_,F_,F_,F_,F_,F_,F_,F_,F_,F_,F_,F_,F_,F_,F_,F_,F_,F_,F_,F_,F_,F_,F_,F_] rfl rfl (any_of HT_.out (by kernel_rfl)) (fun _ _ _ h => h) (Or.inl ⟨by rfl, ?_⟩) ?_ ?_
              rotate_left; ·intro w'; go_simp; with_reducible rfl
              rotate_left; ·simp only [Act.put, sA_,sZ_,sS_, i64_w, i32_w]; rfl
              refine pure_ (i := 15) (N := some 149) (v := ?_) (a' := ?_) #[T_,T_,T_,T_,T_,T_,T_,T_,T_,T_,T_,T_,T_,T_,T_,T_,F_,F_,F_,F_,F_,F_,F_,F_,F_,F_,F_,F_,F_,F_,F_,F_,F_,F_,F_,F_,F_,F_,F_,F_,F_] rfl rfl (any_of HT_.out (by kernel_rfl)) (fun _ _ _ h => h) (Or.inl ⟨by rfl, ?_⟩) ?_ ?_
              rotate_left; ·intro w'; go_simp; with_reducible rfl
              rotate_left; ·simp only [Act.put, sA_,sZ_,sS_, i64_w, i32_w]; rfl
              refine pure_ (i := 16) (N := some 150) (v := ?_) (a' := ?_) #[T_,T_,T_,T_,T_,T_,T_,T_,T_,T_,T_,T_,T_,T_,T_,T_,T_,F_,F_,F_,F_,F_,F_,F_,F_,F_,F_,F_,F_,F_,F_,F_,F_,F_,F_,F_,F_,F_,F_,F_,F_] rfl rfl (any_of HT_.out (by kernel_rfl)) (fun _ _ _ h => h) (Or.inl ⟨by rfl, ?_⟩) ?_ ?_
              rotate_left; ·intro w'; go_simp; with_reducible rfl
              rotate_left; ·simp only [Act.put, sA_,sZ_,sS_, i64_w, i32_w]; rfl
              refine pure_ (i := 17) (N := some 151) (v := ?_) (a' := ?_) #[T_,T_,T_,T_,T_,T_,T_,T_,T_,T_,T_,T_,T_,T_,T_,T_,T_,T_,F_,F_,F_,F_,F_,F_,F_,F_,F_,F_,F_,F_,F_,F_,F_,F_,F_,F_,F_,F_,F_,F_,F_] rfl rfl (any_of HT_.out (by kernel_rfl)) (fun _ _ _ h => h) (Or.inl ⟨by rfl, ?_⟩) ?_ ?_
              rotate_left; ·intro w'; go_simp; with_reducible rfl
              rotate_left; ·simp only [Act.put, sA_,sZ_,sS_, i64_w, i32_w]; rfl
              refine pure_ (i := 18) (N := some 152) (v := ?_) (a' := ?_) #[T_,T_,T_,T_,T_,T_,T_,T_,T_,T_,T_,T_,T_,T_,T_,T_,T_,T_,T_,F_,F_,F_,F_,F_,F_,F_,F_,F_,F_,F_,F_,F_,F_,F_,F_,F_,F_,F_,F_,F_,F_] rfl rfl (any_of HT_.out (by kernel_rfl)) (fun _ _ _ h => h) (Or.inl ⟨by rfl, ?_⟩) ?_ ?_
              rotate_left; ·intro w'; go_simp; with_reducible rfl
              rotate_left; ·simp only [Act.put, sA_,sZ_,sS_, i64_w, i32_w]; rfl
              refine take_ (i := 19) (N := some 153) (v := ?_) (a' := ?_) #[T_,T_,T_,T_,T_,T_,T_,T_,T_,T_,T_,T_,T_,T_,T_,T_,T_,T_,T_,T_,F_,F_,F_,F_,F_,F_,F_,F_,F_,F_,F_,F_,F_,F_,F_,F_,F_,F_,F_,F_,F_] rfl rfl (take_ofW HT_.out HW_.out (by kernel_rfl)) (fun _ _ _ h => h) (Or.inl ⟨by rfl, ?_⟩) hHeld ?_ ?_
              rotate_left
              ·rintro w' ⟨s0, s1, s2, s3, s4, s5, s6, s7, s8, s9, s10, s11, s12, s13, s14, s15⟩
               go_simp
               with_reducible rfl
              rotate_left; ·simp only [Act.put, sA_,sZ_,sS_, i64_w, i32_w]; rfl
              refine take_ (i := 20) (N := some 154) (v := ?_) (a' := ?_) #[T_,T_,T_,T_,T_,T_,T_,T_,T_,T_,T_,T_,T_,T_,T_,T_,T_,T_,T_,T_,T_,F_,F_,F_,F_,F_,F_,F_,F_,F_,F_,F_,F_,F_,F_,F_,F_,F_,F_,F_,F_] rfl rfl (take_ofW HT_.out HW_.out (by kernel_rfl)) (fun _ _ _ h => h) (Or.inl ⟨by rfl, ?_⟩) hHeld ?_ ?_
              rotate_left
              ·rintro w' ⟨s0, s1, s2, s3, s4, s5, s6, s7, s8, s9, s10, s11, s12, s13, s14, s15⟩
               go_simp
               with_reducible rfl
              rotate_left; ·simp only [Act.put, sA_,sZ_,sS_, i64_w, i32_w]; rfl
              refine one_ (i := 21) (N := some 155) #[T_,T_,T_,T_,T_,T_,T_,T_,T_,T_,T_,T_,T_,T_,T_,T_,T_,T_,T_,T_,T_,T_,F_,F_,F_,F_,F_,F_,F_,F_,F_,F_,F_,F_,F_,F_,F_,F_,F_,F_,F_] rfl rfl (one_of HT_.out (by kernel_rfl)) (by decide) (fun K hK => ?_)
              refine goes_ Try.func15 (by kernel_rfl) rfl #[.agg #[.slice Ao152 t328.length co152, .slice Ao162 t331.length co162], .agg #[.slice Ao166 t336.length co166, .slice Ao177 t339.length co177]] (by rfl) rfl rfl (by (try simp only [List.map_toArray, List.map_cons, List.map_nil]); first | done | rfl) ?_
              with_reducible refine (armadaref01_Same.calls kj27 _ _ t328 _ _ t331 _ _ t336 _ _ t339 true _ ?side1 ?side2 ?side3 ?side4 ?side5 ?side6 ?side7 ?side8 A88.out).mono ?_
              (case side1 => repeat (first | exact (Kd.R_reads' HO330.out).2.2 | (with_reducible refine Kd.C_alloc ?_ _) | (with_reducible refine Kd.C_drewN ?_ _) | (with_reducible refine Kd.C_drew ?_)))
              (case side2 => exact (Kd.R_reads' HO330.out).2.1)
              (case side3 => repeat (first | exact (Kd.R_reads' HO333.out).2.2 | (with_reducible refine Kd.C_alloc ?_ _) | (with_reducible refine Kd.C_drewN ?_ _) | (with_reducible refine Kd.C_drew ?_)))
              (case side4 => exact (Kd.R_reads' HO333.out).2.1)
              (case side5 => repeat (first | exact (Kd.R_reads' HO338.out).2.2 | (with_reducible refine Kd.C_alloc ?_ _) | (with_reducible refine Kd.C_drewN ?_ _) | (with_reducible refine Kd.C_drew ?_)))
              (case side6 => exact (Kd.R_reads' HO338.out).2.1)
              (case side7 => repeat (first | exact (Kd.R_reads' HO341.out).2.2 | (with_reducible refine Kd.C_alloc ?_ _) | (with_reducible refine Kd.C_drewN ?_ _) | (with_reducible refine Kd.C_drew ?_)))
              (case side8 => exact (Kd.R_reads' HO341.out).2.1)
              rintro e w182 ⟨rfl, hb⟩
              refine ⟨_, rfl, ?_⟩
              have hz_ := zq HB (by repeat (first | (with_reducible first | exact Below.refl _ _ | apply yA_ | apply yN_ | apply yD_) | exact Below.refl _ _)) hb
              replace hb := below_step hz_ hb
              replace HO_281000 := zV HO_281000 hb
              replace HO_281001 := zV HO_281001 hb
              replace HO_289000 := zV HO_289000 hb
              replace HO_289001 := zV HO_289001 hb
              replace HO298 := zV HO298 hb
              replace HO301 := zV HO301 hb
              replace HO306 := zV HO306 hb
              replace HO309 := zV HO309 hb
              replace HO314 := zV HO314 hb
              replace HO317 := zV HO317 hb
              replace HO322 := zV HO322 hb
              replace HO325 := zV HO325 hb
              replace HO330 := zR HO330 hb
              replace HO333 := zR HO333 hb
              replace HO338 := zR HO338 hb
              replace HO341 := zR HO341 hb
              replace BK269 := zB BK269 hb
              replace BK270 := zB BK270 hb
              replace BK280 := zB BK280 hb
              replace BK288 := zB BK288 hb
              replace BK303 := zB BK303 hb
              replace BK311 := zB BK311 hb
              replace BK319 := zB BK319 hb
              replace BK327 := zB BK327 hb
              replace BK335 := zB BK335 hb
              replace BK343 := zB BK343 hb
              replace HB := zH HB hb
              clear hz_
              (try clear hb)
              (try clear hb2)
              (try clear hk)
              (try clear hi)
              refine hK.out _ _ ⟨(xC_ BK303.out 0).trans rfl, (xC_ BK303.out 1).trans rfl, (xC_ BK311.out 0).trans rfl, (xC_ BK311.out 1).trans rfl, (xC_ BK319.out 0).trans rfl, (xC_ BK319.out 1).trans rfl, (xC_ BK327.out 0).trans rfl, (xC_ BK327.out 1).trans rfl, (xC_ BK335.out 0).trans rfl, (xC_ BK335.out 1).trans rfl, (xC_ BK343.out 0).trans rfl, (xC_ BK343.out 1).trans rfl, (xC_ BK269.out 0).trans rfl, (xC_ BK269.out 1).trans rfl, (xC_ BK280.out 0).trans rfl, (xC_ BK280.out 1).trans rfl⟩ (fun hHeld => ?_)
              clear hK K
              refine norm_ (a' := ?_) ?_ ?_
              rotate_left
              ·show Act.put _ (some 155) _ = _
               simp only [Act.put, sA_,sZ_,sS_, i64_w, i32_w]
               rfl
              refine pure_ (i := 22) (N := some 156) (v := ?_) (a' := ?_) #[T_,T_,T_,T_,T_,T_,T_,T_,T_,T_,T_,T_,T_,T_,T_,T_,T_,T_,T_,T_,T_,T_,T_,F_,F_,F_,F_,F_,F_,F_,F_,F_,F_,F_,F_,F_,F_,F_,F_,F_,F_] rfl rfl (any_of HT_.out (by kernel_rfl)) (fun _ _ _ h => h) (Or.inl ⟨by rfl, ?_⟩) ?_ ?_
              rotate_left; ·intro w'; go_simp; with_reducible rfl
              rotate_left; ·simp only [Act.put, sA_,sZ_,sS_, i64_w, i32_w]; rfl
              refine pure_ (i := 23) (N := some 157) (v := ?_) (a' := ?_) #[T_,T_,T_,T_,T_,T_,T_,T_,T_,T_,T_,T_,T_,T_,T_,T_,T_,T_,T_,T_,T_,T_,T_,T_,F_,F_,F_,F_,F_,F_,F_,F_,F_,F_,F_,F_,F_,F_,F_,F_,F_] rfl rfl (any_of HT_.out (by kernel_rfl)) (fun _ _ _ h => h) (Or.inl ⟨by rfl, ?_⟩) ?_ ?_
              rotate_left; ·intro w'; go_simp; with_reducible rfl
              rotate_left; ·simp only [Act.put, sA_,sZ_,sS_, i64_w, i32_w]; rfl
              refine pure_ (i := 24) (N := some 158) (v := ?_) (a' := ?_) #[T_,T_,T_,T_,T_,T_,T_,T_,T_,T_,T_,T_,T_,T_,T_,T_,T_,T_,T_,T_,T_,T_,T_,T_,T_,F_,F_,F_,F_,F_,F_,F_,F_,F_,F_,F_,F_,F_,F_,F_,F_] rfl rfl (any_of HT_.out (by kernel_rfl)) (fun _ _ _ h => h) (Or.inl ⟨by rfl, ?_⟩) ?_ ?_
              rotate_left; ·intro w'; go_simp; with_reducible rfl
              rotate_left; ·simp only [Act.put, sA_,sZ_,sS_, i64_w, i32_w]; rfl
              refine pure_ (i := 25) (N := some 159) (v := ?_) (a' := ?_) #[T_,T_,T_,T_,T_,T_,T_,T_,T_,T_,T_,T_,T_,T_,T_,T_,T_,T_,T_,T_,T_,T_,T_,T_,T_,T_,F_,F_,F_,F_,F_,F_,F_,F_,F_,F_,F_,F_,F_,F_,F_] rfl rfl (any_of HT_.out (by kernel_rfl)) (fun _ _ _ h => h) (Or.inl ⟨by rfl, ?_⟩) ?_ ?_
              rotate_left; ·intro w'; go_simp; with_reducible rfl
              rotate_left; ·simp only [Act.put, sA_,sZ_,sS_, i64_w, i32_w]; rfl
              refine pure_ (i := 26) (N := some 160) (v := ?_) (a' := ?_) #[T_,T_,T_,T_,T_,T_,T_,T_,T_,T_,T_,T_,T_,T_,T_,T_,T_,T_,T_,T_,T_,T_,T_,T_,T_,T_,T_,F_,F_,F_,F_,F_,F_,F_,F_,F_,F_,F_,F_,F_,F_] rfl rfl (any_of HT_.out (by kernel_rfl)) (fun _ _ _ h => h) (Or.inl ⟨by rfl, ?_⟩) ?_ ?_
              rotate_left; ·intro w'; go_simp; with_reducible rfl
              rotate_left; ·simp only [Act.put, sA_,sZ_,sS_, i64_w, i32_w]; rfl
              refine pure_ (i := 27) (N := some 161) (v := ?_) (a' := ?_) #[T_,T_,T_,T_,T_,T_,T_,T_,T_,T_,T_,T_,T_,T_,T_,T_,T_,T_,T_,T_,T_,T_,T_,T_,T_,T_,T_,T_,F_,F_,F_,F_,F_,F_,F_,F_,F_,F_,F_,F_,F_] rfl rfl (any_of HT_.out (by kernel_rfl)) (fun _ _ _ h => h) (Or.inl ⟨by rfl, ?_⟩) ?_ ?_
              rotate_left; ·intro w'; go_simp; with_reducible rfl
              rotate_left; ·simp only [Act.put, sA_,sZ_,sS_, i64_w, i32_w]; rfl
              refine pure_ (i := 28) (N := some 162) (v := ?_) (a' := ?_) #[T_,T_,T_,T_,T_,T_,T_,T_,T_,T_,T_,T_,T_,T_,T_,T_,T_,T_,T_,T_,T_,T_,T_,T_,T_,T_,T_,T_,T_,F_,F_,F_,F_,F_,F_,F_,F_,F_,F_,F_,F_] rfl rfl (any_of HT_.out (by kernel_rfl)) (fun _ _ _ h => h) (Or.inl ⟨by rfl, ?_⟩) ?_ ?_
              rotate_left; ·intro w'; go_simp; with_reducible rfl
              rotate_left; ·simp only [Act.put, sA_,sZ_,sS_, i64_w, i32_w]; rfl
              refine take_ (i := 29) (N := some 163) (v := ?_) (a' := ?_) #[T_,T_,T_,T_,T_,T_,T_,T_,T_,T_,T_,T_,T_,T_,T_,T_,T_,T_,T_,T_,T_,T_,T_,T_,T_,T_,T_,T_,T_,T_,F_,F_,F_,F_,F_,F_,F_,F_,F_,F_,F_] rfl rfl (take_ofW HT_.out HW_.out (by kernel_rfl)) (fun _ _ _ h => h) (Or.inl ⟨by rfl, ?_⟩) hHeld ?_ ?_
              rotate_left
              ·rintro w' ⟨s0, s1, s2, s3, s4, s5, s6, s7, s8, s9, s10, s11, s12, s13, s14, s15⟩
               go_simp
               with_reducible rfl
              rotate_left; ·simp only [Act.put, sA_,sZ_,sS_, i64_w, i32_w]; rfl
              refine take_ (i := 30) (N := some 164) (v := ?_) (a' := ?_) #[T_,T_,T_,T_,T_,T_,T_,T_,T_,T_,T_,T_,T_,T_,T_,T_,T_,T_,T_,T_,T_,T_,T_,T_,T_,T_,T_,T_,T_,T_,T_,F_,F_,F_,F_,F_,F_,F_,F_,F_,F_] rfl rfl (take_ofW HT_.out HW_.out (by kernel_rfl)) (fun _ _ _ h => h) (Or.inl ⟨by rfl, ?_⟩) hHeld ?_ ?_
              rotate_left
              ·rintro w' ⟨s0, s1, s2, s3, s4, s5, s6, s7, s8, s9, s10, s11, s12, s13, s14, s15⟩
               go_simp
               with_reducible rfl
              rotate_left; ·simp only [Act.put, sA_,sZ_,sS_, i64_w, i32_w]; rfl
              refine take_ (i := 32) (N := some 166) (v := ?_) (a' := ?_) #[T_,T_,T_,T_,T_,T_,T_,T_,T_,T_,T_,T_,T_,T_,T_,T_,T_,T_,T_,T_,T_,T_,T_,T_,T_,T_,T_,T_,T_,T_,T_,F_,T_,F_,F_,F_,F_,F_,F_,F_,F_] rfl rfl (take_ofW HT_.out HW_.out (by kernel_rfl)) (fun _ _ _ h => h) (Or.inl ⟨by rfl, ?_⟩) hHeld ?_ ?_
              rotate_left
              ·rintro w' ⟨s0, s1, s2, s3, s4, s5, s6, s7, s8, s9, s10, s11, s12, s13, s14, s15⟩
               go_simp
               with_reducible rfl
              rotate_left; ·simp only [Act.put, sA_,sZ_,sS_, i64_w, i32_w]; rfl
              refine take_ (i := 33) (N := some 167) (v := ?_) (a' := ?_) #[T_,T_,T_,T_,T_,T_,T_,T_,T_,T_,T_,T_,T_,T_,T_,T_,T_,T_,T_,T_,T_,T_,T_,T_,T_,T_,T_,T_,T_,T_,T_,F_,T_,T_,F_,F_,F_,F_,F_,F_,F_] rfl rfl (take_ofW HT_.out HW_.out (by kernel_rfl)) (fun _ _ _ h => h) (Or.inl ⟨by rfl, ?_⟩) hHeld ?_ ?_
              rotate_left
              ·rintro w' ⟨s0, s1, s2, s3, s4, s5, s6, s7, s8, s9, s10, s11, s12, s13, s14, s15⟩
               go_simp
               with_reducible rfl
              rotate_left; ·simp only [Act.put, sA_,sZ_,sS_, i64_w, i32_w]; rfl
              refine one_ (i := 31) (N := some 165) #[T_,T_,T_,T_,T_,T_,T_,T_,T_,T_,T_,T_,T_,T_,T_,T_,T_,T_,T_,T_,T_,T_,T_,T_,T_,T_,T_,T_,T_,T_,T_,T_,T_,T_,F_,F_,F_,F_,F_,F_,F_] rfl rfl (one_of HT_.out (by kernel_rfl)) (by decide) (fun K hK => ?_)
              refine goes_ Try.func24 (by kernel_rfl) rfl #[.agg #[.slice A0_0 l0_0.length c0_0, .slice A0_1 l0_1.length c0_1], .agg #[.slice Ao34 t273.length co34, .slice Ao38 t276.length co38]] (by rfl) rfl rfl (by (try simp only [List.map_toArray, List.map_cons, List.map_nil]); first | done | rfl) ?_
              with_reducible refine (disk_Same.calls kj27 _ _ l0_0 _ _ l0_1 _ _ t273 _ _ t276 t347 _ ?side1 ?side2 ?side3 ?side4 ?side5 ?side6 ?side7 ?side8 A91.out).mono ?_
              (case side1 => repeat (first | exact (Kd.C_below HR0_0.out HB.out) | (with_reducible refine Kd.C_alloc ?_ _) | (with_reducible refine Kd.C_drewN ?_ _) | (with_reducible refine Kd.C_drew ?_)))
              (case side2 => exact HC0_0.out)
              (case side3 => repeat (first | exact (Kd.C_below HR0_1.out HB.out) | (with_reducible refine Kd.C_alloc ?_ _) | (with_reducible refine Kd.C_drewN ?_ _) | (with_reducible refine Kd.C_drew ?_)))
              (case side4 => exact HC0_1.out)
              (case side5 => repeat (first | exact (Kd.V_reads' HO_281000.out).2.2 | (with_reducible refine Kd.C_alloc ?_ _) | (with_reducible refine Kd.C_drewN ?_ _) | (with_reducible refine Kd.C_drew ?_)))
              (case side6 => exact (Kd.V_reads' HO_281000.out).2.1)
              (case side7 => repeat (first | exact (Kd.V_reads' HO_281001.out).2.2 | (with_reducible refine Kd.C_alloc ?_ _) | (with_reducible refine Kd.C_drewN ?_ _) | (with_reducible refine Kd.C_drew ?_)))
              (case side8 => exact (Kd.V_reads' HO_281001.out).2.1)
              rintro e w183 ⟨rfl, hb⟩
              refine ⟨_, rfl, ?_⟩
              have hz_ := zq HB (by repeat (first | (with_reducible first | exact Below.refl _ _ | apply yA_ | apply yN_ | apply yD_) | exact Below.refl _ _)) hb
              replace hb := below_step hz_ hb
              replace HO_281000 := zV HO_281000 hb
              replace HO_281001 := zV HO_281001 hb
              replace HO_289000 := zV HO_289000 hb
              replace HO_289001 := zV HO_289001 hb
              replace HO298 := zV HO298 hb
              replace HO301 := zV HO301 hb
              replace HO306 := zV HO306 hb
              replace HO309 := zV HO309 hb
              replace HO314 := zV HO314 hb
              replace HO317 := zV HO317 hb
              replace HO322 := zV HO322 hb
              replace HO325 := zV HO325 hb
              replace HO330 := zR HO330 hb
              replace HO333 := zR HO333 hb
              replace HO338 := zR HO338 hb
              replace HO341 := zR HO341 hb
              replace BK269 := zB BK269 hb
              replace BK270 := zB BK270 hb
              replace BK280 := zB BK280 hb
              replace BK288 := zB BK288 hb
              replace BK303 := zB BK303 hb
              replace BK311 := zB BK311 hb
              replace BK319 := zB BK319 hb
              replace BK327 := zB BK327 hb
              replace BK335 := zB BK335 hb
              replace BK343 := zB BK343 hb
              replace HB := zH HB hb
              clear hz_
              (try clear hb)
              (try clear hb2)
              (try clear hk)
              (try clear hi)
              refine hK.out _ _ ⟨(xC_ BK303.out 0).trans rfl, (xC_ BK303.out 1).trans rfl, (xC_ BK311.out 0).trans rfl, (xC_ BK311.out 1).trans rfl, (xC_ BK319.out 0).trans rfl, (xC_ BK319.out 1).trans rfl, (xC_ BK327.out 0).trans rfl, (xC_ BK327.out 1).trans rfl, (xC_ BK335.out 0).trans rfl, (xC_ BK335.out 1).trans rfl, (xC_ BK343.out 0).trans rfl, (xC_ BK343.out 1).trans rfl, (xC_ BK269.out 0).trans rfl, (xC_ BK269.out 1).trans rfl, (xC_ BK280.out 0).trans rfl, (xC_ BK280.out 1).trans rfl⟩ (fun hHeld => ?_)
              clear hK K
              refine norm_ (a' := ?_) ?_ ?_
              rotate_left
              ·show Act.put _ (some 165) _ = _
               simp only [Act.put, sA_,sZ_,sS_, i64_w, i32_w]
               rfl
              refine one_ (i := 34) (N := some 168) #[T_,T_,T_,T_,T_,T_,T_,T_,T_,T_,T_,T_,T_,T_,T_,T_,T_,T_,T_,T_,T_,T_,T_,T_,T_,T_,T_,T_,T_,T_,T_,T_,T_,T_,T_,F_,F_,F_,F_,F_,F_] rfl rfl (one_of HT_.out (by kernel_rfl)) (by decide) (fun K hK => ?_)
              refine goes_ Try.func15 (by kernel_rfl) rfl #[.agg #[.slice A0_0 l0_0.length c0_0, .slice A0_1 l0_1.length c0_1], .agg #[.slice Ao34 t273.length co34, .slice Ao38 t276.length co38]] (by rfl) rfl rfl (by (try simp only [List.map_toArray, List.map_cons, List.map_nil]); first | done | rfl) ?_
              with_reducible refine (armadaref01_Same.calls kj27 _ _ l0_0 _ _ l0_1 _ _ t273 _ _ t276 t348 _ ?side1 ?side2 ?side3 ?side4 ?side5 ?side6 ?side7 ?side8 A92.out).mono ?_
              (case side1 => repeat (first | exact (Kd.C_below HR0_0.out HB.out) | (with_reducible refine Kd.C_alloc ?_ _) | (with_reducible refine Kd.C_drewN ?_ _) | (with_reducible refine Kd.C_drew ?_)))
              (case side2 => exact HC0_0.out)
              (case side3 => repeat (first | exact (Kd.C_below HR0_1.out HB.out) | (with_reducible refine Kd.C_alloc ?_ _) | (with_reducible refine Kd.C_drewN ?_ _) | (with_reducible refine Kd.C_drew ?_)))
              (case side4 => exact HC0_1.out)
              (case side5 => repeat (first | exact (Kd.V_reads' HO_281000.out).2.2 | (with_reducible refine Kd.C_alloc ?_ _) | (with_reducible refine Kd.C_drewN ?_ _) | (with_reducible refine Kd.C_drew ?_)))
              (case side6 => exact (Kd.V_reads' HO_281000.out).2.1)
              (case side7 => repeat (first | exact (Kd.V_reads' HO_281001.out).2.2 | (with_reducible refine Kd.C_alloc ?_ _) | (with_reducible refine Kd.C_drewN ?_ _) | (with_reducible refine Kd.C_drew ?_)))
              (case side8 => exact (Kd.V_reads' HO_281001.out).2.1)
              rintro e w184 ⟨rfl, hb⟩
              refine ⟨_, rfl, ?_⟩
              have hz_ := zq HB (by repeat (first | (with_reducible first | exact Below.refl _ _ | apply yA_ | apply yN_ | apply yD_) | exact Below.refl _ _)) hb
              replace hb := below_step hz_ hb
              replace HO_281000 := zV HO_281000 hb
              replace HO_281001 := zV HO_281001 hb
              replace HO_289000 := zV HO_289000 hb
              replace HO_289001 := zV HO_289001 hb
              replace HO298 := zV HO298 hb
              replace HO301 := zV HO301 hb
              replace HO306 := zV HO306 hb
              replace HO309 := zV HO309 hb
              replace HO314 := zV HO314 hb
              replace HO317 := zV HO317 hb
              replace HO322 := zV HO322 hb
              replace HO325 := zV HO325 hb
              replace HO330 := zR HO330 hb
              replace HO333 := zR HO333 hb
              replace HO338 := zR HO338 hb
              replace HO341 := zR HO341 hb
              replace BK269 := zB BK269 hb
              replace BK270 := zB BK270 hb
              replace BK280 := zB BK280 hb
              replace BK288 := zB BK288 hb
              replace BK303 := zB BK303 hb
              replace BK311 := zB BK311 hb
              replace BK319 := zB BK319 hb
              replace BK327 := zB BK327 hb
              replace BK335 := zB BK335 hb
              replace BK343 := zB BK343 hb
              replace HB := zH HB hb
              clear hz_
              (try clear hb)
              (try clear hb2)
              (try clear hk)
              (try clear hi)
              refine hK.out _ _ ⟨(xC_ BK303.out 0).trans rfl, (xC_ BK303.out 1).trans rfl, (xC_ BK311.out 0).trans rfl, (xC_ BK311.out 1).trans rfl, (xC_ BK319.out 0).trans rfl, (xC_ BK319.out 1).trans rfl, (xC_ BK327.out 0).trans rfl, (xC_ BK327.out 1).trans rfl, (xC_ BK335.out 0).trans rfl, (xC_ BK335.out 1).trans rfl, (xC_ BK343.out 0).trans rfl, (xC_ BK343.out 1).trans rfl, (xC_ BK269.out 0).trans rfl, (xC_ BK269.out 1).trans rfl, (xC_ BK280.out 0).trans rfl, (xC_ BK280.out 1).trans rfl⟩ (fun hHeld => ?_)
              clear hK K
              refine norm_ (a' := ?_) ?_ ?_
              rotate_left
              ·show Act.put _ (some 168) _ = _
               simp only [Act.put, sA_,sZ_,sS_, i64_w, i32_w]
               rfl
              refine pure_ (i := 35) (N := some 169) (v := ?_) (a' := ?_) #[T_,T_,T_,T_,T_,T_,T_,T_,T_,T_,T_,T_,T_,T_,T_,T_,T_,T_,T_,T_,T_,T_,T_,T_,T_,T_,T_,T_,T_,T_,T_,T_,T_,T_,T_,T_,F_,F_,F_,F_,F_] rfl rfl (any_of HT_.out (by kernel_rfl)) (fun _ _ _ h => h) (Or.inl ⟨by rfl, ?_⟩) ?_ ?_
              rotate_left; ·intro w'; go_simp; with_reducible rfl
              rotate_left; ·simp only [Act.put, sA_,sZ_,sS_, i64_w, i32_w]; rfl
              refine pure_ (i := 36) (N := some 170) (v := ?_) (a' := ?_) #[T_,T_,T_,T_,T_,T_,T_,T_,T_,T_,T_,T_,T_,T_,T_,T_,T_,T_,T_,T_,T_,T_,T_,T_,T_,T_,T_,T_,T_,T_,T_,T_,T_,T_,T_,T_,T_,F_,F_,F_,F_] rfl rfl (any_of HT_.out (by kernel_rfl)) (fun _ _ _ h => h) (Or.inl ⟨by rfl, ?_⟩) ?_ ?_
              rotate_left; ·intro w'; go_simp; with_reducible rfl
              rotate_left; ·simp only [Act.put, sA_,sZ_,sS_, i64_w, i32_w]; rfl
              refine pure_ (i := 37) (N := some 171) (v := ?_) (a' := ?_) #[T_,T_,T_,T_,T_,T_,T_,T_,T_,T_,T_,T_,T_,T_,T_,T_,T_,T_,T_,T_,T_,T_,T_,T_,T_,T_,T_,T_,T_,T_,T_,T_,T_,T_,T_,T_,T_,T_,F_,F_,F_] rfl rfl (any_of HT_.out (by kernel_rfl)) (fun _ _ _ h => h) (Or.inl ⟨by rfl, ?_⟩) ?_ ?_
              rotate_left; ·intro w'; go_simp; with_reducible rfl
              rotate_left; ·simp only [Act.put, sA_,sZ_,sS_, i64_w, i32_w]; rfl
              refine one_ (i := 38) (N := some 172) #[T_,T_,T_,T_,T_,T_,T_,T_,T_,T_,T_,T_,T_,T_,T_,T_,T_,T_,T_,T_,T_,T_,T_,T_,T_,T_,T_,T_,T_,T_,T_,T_,T_,T_,T_,T_,T_,T_,T_,F_,F_] rfl rfl (one_of HT_.out (by kernel_rfl)) (by decide) (fun K hK => ?_)
              refine goes_ Try.func10 (by kernel_rfl) rfl #[] (by rfl) rfl rfl (by (try simp only [List.map_toArray, List.map_cons, List.map_nil]); first | done | rfl) ?_
              with_reducible refine (armadalaw01_live.calls kj27  true _ A94.out).mono ?_
              rintro e w185 ⟨rfl, hb⟩
              refine ⟨_, rfl, ?_⟩
              have hz_ := zq HB (by repeat (first | (with_reducible first | exact Below.refl _ _ | apply yA_ | apply yN_ | apply yD_) | exact Below.refl _ _)) hb
              replace hb := below_step hz_ hb
              replace HO_281000 := zV HO_281000 hb
              replace HO_281001 := zV HO_281001 hb
              replace HO_289000 := zV HO_289000 hb
              replace HO_289001 := zV HO_289001 hb
              replace HO298 := zV HO298 hb
              replace HO301 := zV HO301 hb
              replace HO306 := zV HO306 hb
              replace HO309 := zV HO309 hb
              replace HO314 := zV HO314 hb
              replace HO317 := zV HO317 hb
              replace HO322 := zV HO322 hb
              replace HO325 := zV HO325 hb
              replace HO330 := zR HO330 hb
              replace HO333 := zR HO333 hb
              replace HO338 := zR HO338 hb
              replace HO341 := zR HO341 hb
              replace BK269 := zB BK269 hb
              replace BK270 := zB BK270 hb
              replace BK280 := zB BK280 hb
              replace BK288 := zB BK288 hb
              replace BK303 := zB BK303 hb
              replace BK311 := zB BK311 hb
              replace BK319 := zB BK319 hb
              replace BK327 := zB BK327 hb
              replace BK335 := zB BK335 hb
              replace BK343 := zB BK343 hb
              replace HB := zH HB hb
              clear hz_
              (try clear hb)
              (try clear hb2)
              (try clear hk)
              (try clear hi)
              refine hK.out _ _ ⟨(xC_ BK303.out 0).trans rfl, (xC_ BK303.out 1).trans rfl, (xC_ BK311.out 0).trans rfl, (xC_ BK311.out 1).trans rfl, (xC_ BK319.out 0).trans rfl, (xC_ BK319.out 1).trans rfl, (xC_ BK327.out 0).trans rfl, (xC_ BK327.out 1).trans rfl, (xC_ BK335.out 0).trans rfl, (xC_ BK335.out 1).trans rfl, (xC_ BK343.out 0).trans rfl, (xC_ BK343.out 1).trans rfl, (xC_ BK269.out 0).trans rfl, (xC_ BK269.out 1).trans rfl, (xC_ BK280.out 0).trans rfl, (xC_ BK280.out 1).trans rfl⟩ (fun hHeld => ?_)
              clear hK K
              refine norm_ (a' := ?_) ?_ ?_
              rotate_left
              ·show Act.put _ (some 172) _ = _
               simp only [Act.put, sA_,sZ_,sS_, i64_w, i32_w]
               rfl
              refine pure_ (i := 39) (N := some 173) (v := ?_) (a' := ?_) #[T_,T_,T_,T_,T_,T_,T_,T_,T_,T_,T_,T_,T_,T_,T_,T_,T_,T_,T_,T_,T_,T_,T_,T_,T_,T_,T_,T_,T_,T_,T_,T_,T_,T_,T_,T_,T_,T_,T_,T_,F_] rfl rfl (any_of HT_.out (by kernel_rfl)) (fun _ _ _ h => h) (Or.inl ⟨by rfl, ?_⟩) ?_ ?_
              rotate_left; ·intro w'; go_simp; with_reducible rfl
              rotate_left; ·simp only [Act.put, sA_,sZ_,sS_, i64_w, i32_w]; rfl
              refine pure_ (i := 40) (N := some 6) (v := ?_) (a' := ?_) #[T_,T_,T_,T_,T_,T_,T_,T_,T_,T_,T_,T_,T_,T_,T_,T_,T_,T_,T_,T_,T_,T_,T_,T_,T_,T_,T_,T_,T_,T_,T_,T_,T_,T_,T_,T_,T_,T_,T_,T_,T_] rfl rfl (any_of HT_.out (by kernel_rfl)) (fun _ _ _ h => h) (Or.inl ⟨by rfl, ?_⟩) ?_ ?_
              rotate_left; ·intro w'; go_simp; with_reducible rfl
              rotate_left; ·simp only [Act.put, sA_,sZ_,sS_, i64_w, i32_w]; rfl
              refine done_ (done_of HT_.out (by kernel_rfl)) ?_
              try go_wp2
              go_ret
              exact ⟨by first | rfl | (simp [errW_none, errW_some] <;> rfl) | (simp [*, errW_none, errW_some] <;> rfl), by repeat (first | (with_reducible first | exact HB.out | apply yA_ | apply yN_ | apply yD_ | refine yS_ ?_ GE269.out | refine yS_ ?_ GE270.out | refine yS_ ?_ GE280.out | refine yS_ ?_ GE288.out | refine yS_ ?_ GE303.out | refine yS_ ?_ GE311.out | refine yS_ ?_ GE319.out | refine yS_ ?_ GE327.out | refine yS_ ?_ GE335.out | refine yS_ ?_ GE343.out) | exact HB.out)⟩
             ·rw [if_neg c93] at H
              have c93b0 : (t347 == t348) = false := by simpa using c93
              (try (have c93b1 : decide (t347 = t348) = false := by simpa using c93))
              (try (have c93b2 : (t347 == t348) = false := by simpa using c93))
              (try (have c93b3 : ¬ (t347 = t348) := by simpa using c93))
              clear c93
              exact absurd H (by simp)
            ·rw [if_neg c90] at H
             have c90b0 : (t334 == t342) = false := by simpa using c90
             (try (have c90b1 : decide (t334 = t342) = false := by simpa using c90))
             (try (have c90b2 : (t334 == t342) = false := by simpa using c90))
             (try (have c90b3 : ¬ (t334 = t342) := by simpa using c90))
             clear c90
             exact absurd H (by simp)
           ·replace c89 := Bool.eq_false_iff.mpr c89
            subst c89
            have H1 : (some false) = some true := by rw [if_neg (show ¬ (false = true) by decide)] at H; exact H
            clear H
            have H := H1
            clear H1
            exact absurd H (by simp)
          ·rw [if_neg c87] at H
           have c87b0 : (t318 == t326) = false := beq_eq_false_iff_ne.mpr c87
           have c87b1 : (t318 != t326) = true := bne_iff_ne.mpr c87
           exact absurd H (by simp)
         ·replace c86 := Bool.eq_false_iff.mpr c86
          subst c86
          have H1 : (some false) = some true := by rw [if_neg (show ¬ (false = true) by decide)] at H; exact H
          clear H
          have H := H1
          clear H1
          exact absurd H (by simp)
        ·rw [if_neg c84] at H
         have c84b0 : (t302 == t310) = false := beq_eq_false_iff_ne.mpr c84
         have c84b1 : (t302 != t310) = true := bne_iff_ne.mpr c84
         exact absurd H (by simp)
       ·replace c83 := Bool.eq_false_iff.mpr c83
        subst c83
        have H1 : (some false) = some true := by rw [if_neg (show ¬ (false = true) by decide)] at H; exact H
        clear H
        have H := H1
        clear H1
        exact absurd H (by simp)
end Go.Proofs.Ytnoafmnjnmlhmaa.P
