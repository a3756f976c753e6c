/- Printed functions, merged. -/
import Derived.Test.YthoddglnfdmdeaaZJAM0
import Derived.Test.YthoddglnfdmdeaaZJAH3
import Derived.Test.YthoddglnfdmdeaaZJAM8
import Derived.Test.YthoddglnfdmdeaaZJAM7
import Derived.Test.YthoddglnfdmdeaaZJAM9
import Derived.Test.YthoddglnfdmdeaaZJAM3
import Derived.Test.YthoddglnfdmdeaaZJAM1
import Derived.Test.YthoddglnfdmdeaaZJAAl
namespace Go.Proofs.Ythoddglnfdmdeaa.P
open Go.RowKit Go.Proofs.YthoddglnfdmdeaaW.PrintWords Go.Proofs.YthoddglnfdmdeaaW.PrintLast Go.Proofs.YthoddglnfdmdeaaW.PrintMore
attribute [local go_sem] max2_int min2_int max_two min_two max_three min_three max_four min_four   -- for this text's walks alone
set_option linter.unusedVariables false
set_option linter.unusedSimpArgs false
def armadalaw04_JournalApart.j0 : Nat → Bool → List ByteArray → List (S29) → Int → Int → Int → ByteArray → Option (Bool)
 | 0, _, _, _, _, _, _, _ => none
 | k + 1, x44, x424000, x424001, x425000, x425001, x426000, x426001 => if x44 = true then ((armadalaw04_live.f k).bind fun t428 => (some t428)) else ((disk_Put.f k x424000 x424001 x426000 x426001).bind fun bt429 => (if bt429.2.2 = 0 then ((journal_Open.f k x424000 x424001 x425000 x425001).bind fun bt438 => ((journal_Open.f k bt429.1 bt429.2.1 x425000 x425001).bind fun bt445 => ((armadalaw04_told.f bt438.1 bt438.2.1 bt438.2.2.1).bind fun bt452 => ((armadalaw04_told.f bt445.1 bt445.2.1 bt445.2.2.1).bind fun bt457 => ((armadaref04_Same.f k bt452.1 bt452.2.1 bt452.2.2 bt457.1 bt457.2.1 bt457.2.2).bind fun t462 => (if t462 = true then (if bt438.2.2.2 = bt445.2.2.2 then ((journal_Clean.f k x424000 x424001 x425000 x425001 bt438.1 bt438.2.1 bt438.2.2.1).bind fun t463 => ((journal_Clean.f k bt429.1 bt429.2.1 x425000 x425001 bt445.1 bt445.2.1 bt445.2.2.1).bind fun t464 => (if (t463 == t464) = true then ((armadalaw04_live.f k).bind fun t465 => (some t465)) else (some false)))) else (some false)) else (some false))))))) else ((armadalaw04_live.f k).bind fun t437 => (some t437))))
def armadalaw04_JournalApart.f (k : Nat) (l0_0 : List ByteArray) (l0_1 : List (S29)) (a1_0 : Int) (a1_1 : Int) (a2_0 : Int) (a2_1 : ByteArray) : Option (Bool) := (armadaref01_Small.f k l0_0 l0_1).bind fun t426 => (if t426 = true then (if (a2_1.size : Int) > 32 then (armadalaw04_JournalApart.j0 k true l0_0 l0_1 a1_0 a1_1 a2_0 a2_1) else ((armadaref04_Lies.f k l0_0 l0_1 a1_0 a1_1).bind fun t427 => (if t427 = true then (if a2_0 ≥ a1_0 then (armadalaw04_JournalApart.j0 k (decide (a2_0 < (wrap64 (a1_0 + a1_1)))) l0_0 l0_1 a1_0 a1_1 a2_0 a2_1) else (armadalaw04_JournalApart.j0 k false l0_0 l0_1 a1_0 a1_1 a2_0 a2_1)) else (armadalaw04_JournalApart.j0 k true l0_0 l0_1 a1_0 a1_1 a2_0 a2_1)))) else (armadalaw04_JournalApart.j0 k true l0_0 l0_1 a1_0 a1_1 a2_0 a2_1))
theorem armadalaw04_JournalApart.mono_l : ∀ k, (∀ y0 y1 y2 y3 y4 y5 y6, LeO (armadalaw04_JournalApart.j0 k y0 y1 y2 y3 y4 y5 y6) (armadalaw04_JournalApart.j0 (k + 1) y0 y1 y2 y3 y4 y5 y6))
 | 0 => fun _ _ _ _ _ _ _ r h => by simp [armadalaw04_JournalApart.j0] at h
 | k + 1 => by
  have ih0 := armadalaw04_JournalApart.mono_l k
  ·intro y0 y1 y2 y3 y4 y5 y6
   unfold armadalaw04_JournalApart.j0
   repeat' first
   | (with_reducible exact ih0 _ _ _ _ _ _ _)
   | (with_reducible exact armadalaw04_live.mono _)
   | (with_reducible exact armadaref01_Small.mono _ _ _)
   | (with_reducible exact armadaref04_Lies.mono _ _ _ _ _)
   | (with_reducible exact armadaref04_Same.mono _ _ _ _ _ _ _)
   | (with_reducible exact disk_Put.mono _ _ _ _ _)
   | (with_reducible exact journal_Clean.mono _ _ _ _ _ _ _ _)
   | (with_reducible exact journal_Open.mono _ _ _ _ _)
   | (with_reducible exact LeO.refl _)
   | (with_reducible exact LeO.none _)
   | (with_reducible refine LeO.ite ?_ ?_)
   | (with_reducible refine LeO.bind ?_ (fun _ => ?_))
   | exact ih0 _ _ _ _ _ _ _
   | exact armadalaw04_live.mono _
   | exact armadaref01_Small.mono _ _ _
   | exact armadaref04_Lies.mono _ _ _ _ _
   | exact armadaref04_Same.mono _ _ _ _ _ _ _
   | exact disk_Put.mono _ _ _ _ _
   | exact journal_Clean.mono _ _ _ _ _ _ _ _
   | exact journal_Open.mono _ _ _ _ _
   | exact LeO.none _
   | refine LeO.ite ?_ ?_
   | refine LeO.bind ?_ (fun _ => ?_)
theorem armadalaw04_JournalApart.mono : ∀ a0 a1 a2 a3 a4 a5 k, LeO (armadalaw04_JournalApart.f k a0 a1 a2 a3 a4 a5) (armadalaw04_JournalApart.f (k + 1) a0 a1 a2 a3 a4 a5) := by
 intro a0 a1 a2 a3 a4 a5 k
 have ih0 := armadalaw04_JournalApart.mono_l k
 unfold armadalaw04_JournalApart.f
 repeat' first
   | (with_reducible exact ih0 _ _ _ _ _ _ _)
   | (with_reducible exact armadalaw04_live.mono _)
   | (with_reducible exact armadaref01_Small.mono _ _ _)
   | (with_reducible exact armadaref04_Lies.mono _ _ _ _ _)
   | (with_reducible exact armadaref04_Same.mono _ _ _ _ _ _ _)
   | (with_reducible exact disk_Put.mono _ _ _ _ _)
   | (with_reducible exact journal_Clean.mono _ _ _ _ _ _ _ _)
   | (with_reducible exact journal_Open.mono _ _ _ _ _)
   | (with_reducible exact LeO.refl _)
   | (with_reducible exact LeO.none _)
   | (with_reducible refine LeO.ite ?_ ?_)
   | (with_reducible refine LeO.bind ?_ (fun _ => ?_))
   | exact ih0 _ _ _ _ _ _ _
   | exact armadalaw04_live.mono _
   | exact armadaref01_Small.mono _ _ _
   | exact armadaref04_Lies.mono _ _ _ _ _
   | exact armadaref04_Same.mono _ _ _ _ _ _ _
   | exact disk_Put.mono _ _ _ _ _
   | exact journal_Clean.mono _ _ _ _ _ _ _ _
   | exact journal_Open.mono _ _ _ _ _
   | exact LeO.none _
   | refine LeO.ite ?_ ?_
   | refine LeO.bind ?_ (fun _ => ?_)
def armadalaw04_JournalApart.T8 : Bool × List (List Nat × List Nat) := (true, [([], []), ([0], [0]), ([], []), ([2, 1], [2]), ([1, 3, 3], [1, 3]), ([4, 4], [4]), ([5], [5]), ([5], [5]), ([6, 7, 5], [5, 6, 7]), ([5, 8], [5, 8]), ([9, 5], [9]), ([10], [10]), ([10], [10]), ([10], [10]), ([11, 12, 13, 10, 10], [10, 11, 12, 13]), ([10], [10]), ([10], [10]), ([10], [10]), ([15, 16, 17, 14, 10], [10, 15, 16, 17]), ([14, 18, 10], [10, 14, 18]), ([10, 19], [10, 19]), ([20, 18], [20]), ([21, 21], [21]), ([21, 22], [21, 22]), ([23, 22, 0, 1, 2, 3, 4, 5, 6, 7, 8, 9, 10, 11, 12, 13, 14, 15, 16, 17, 18, 19, 20, 21, 22, 23], [23])])
def armadalaw04_JournalApart.B8 : List Nat := [0, 1, 0, 7, 15, 31, 63, 63, 255, 511, 1023, 2047, 2047, 2047, 16383, 2047, 2047, 2047, 262143, 524287, 1048575, 2097151, 4194303, 8388607, 16777215]
theorem armadalaw04_JournalApart.tab8 : rtab .any (opsOf Try.f3 8) = armadalaw04_JournalApart.T8 := by kernel_rfl
theorem armadalaw04_JournalApart.bits8 : waitsOk armadalaw04_JournalApart.T8.2 armadalaw04_JournalApart.B8 = true := by kernel_rfl
set_option maxHeartbeats 8000000 in
set_option maxRecDepth 100000 in
theorem armadalaw04_JournalApart.calls (k : Nat) (A0_0 : Option Addr) (c0_0 : Nat) (l0_0 : List ByteArray) (A0_1 : Option Addr) (c0_1 : Nat) (l0_1 : List (S29)) (a1_0 : Int) (a1_1 : Int) (a2_0 : Int) (a2_1 : ByteArray) (r : Bool) (w : World) (hr0_0 : Kd.C Kd.string w A0_0 l0_0.length l0_0) (hc0_0 : l0_0.length ≤ c0_0) (hr0_1 : Kd.C k29 w A0_1 l0_1.length l0_1) (hc0_1 : l0_1.length ≤ c0_1) (h : armadalaw04_JournalApart.f k l0_0 l0_1 a1_0 a1_1 a2_0 a2_1 = some r) (hT_ : r = true := by rfl) :
  Calls Try.prog 3 #[.agg #[.slice A0_0 l0_0.length c0_0, .slice A0_1 l0_1.length c0_1], .agg #[.int .i64 a1_0, .int .i64 a1_1], .agg #[.int .i64 a2_0, .string a2_1]] w fun e w' => e = .returned (.bool r) ∧ Below w.heap.size w w' := by
 subst hT_
 have hu25 := Try.underlying25
 have hu27 := Try.underlying27
 have hu29 := Try.underlying29
 have hu37 := Try.underlying37
 have HR0_0 := Aside0.mk hr0_0
 have HC0_0 := Aside0.mk hc0_0
 clear hr0_0 hc0_0
 have HR0_1 := Aside0.mk hr0_1
 have HC0_1 := Aside0.mk hc0_1
 clear hr0_1 hc0_1
 have HB := Aside0.mk (Below.refl w.heap.size w)
 have H := h
 unfold armadalaw04_JournalApart.f at H
 clear h
 have HC4 := Aside0.mk H
 clear H
 go_enter Try.func3, Try.ntmps3
 go_upto_region 1 with (first | ((with_reducible refine gate_dst (N := 3) rfl ?_); (try (refine gate_guard (by rfl) ?_; dsimp only)); refine bE (N := 3) (cs := #[.slice A0_0 l0_0.length c0_0, .slice A0_1 l0_1.length c0_1]) (t := 25) ?_; intro gb423 hg w5 hbox hb; have hz_ := zqA HB hb; replace hb := below_step hz_ hb; have BK423 := Aside0.mk hbox; have GW423 := zG HB hz_ hg; have GE423 := zG HB hz_ hg; replace HB := zH HB hb; clear hz_; clear hb hbox hg) | ((with_reducible refine gate_dst (N := 4) rfl ?_); (try (refine gate_guard (by rfl) ?_; dsimp only)); refine bE (N := 4) (cs := #[.int .i64 a1_0, .int .i64 a1_1]) (t := 27) ?_; intro gb424 hg w6 hbox hb; have hz_ := zqA HB hb; replace hb := below_step hz_ hb; have BK424 := Aside0.mk hbox; have GW424 := zG HB hz_ hg; have GE424 := zG HB hz_ hg; have NB423_424 := zN BK423 hz_ hg; have NB424_423 := zM BK423 hz_ hg; replace BK423 := zB BK423 hb; replace HB := zH HB hb; clear hz_; clear hb hbox hg) | ((with_reducible refine gate_dst (N := 5) rfl ?_); (try (refine gate_guard (by rfl) ?_; dsimp only)); refine bE (N := 5) (cs := #[.int .i64 a2_0, .string a2_1]) (t := 29) ?_; intro gb425 hg w7 hbox hb; have hz_ := zqA HB hb; replace hb := below_step hz_ hb; have BK425 := Aside0.mk hbox; have GW425 := zG HB hz_ hg; have GE425 := zG HB hz_ hg; have NB423_425 := zN BK423 hz_ hg; have NB425_423 := zM BK423 hz_ hg; have NB424_425 := zN BK424 hz_ hg; have NB425_424 := zM BK424 hz_ hg; replace BK423 := zB BK423 hb; replace BK424 := zB BK424 hb; replace HB := zH HB hb; clear hz_; clear hb hbox hg))
 (try simp only [Act.put, List.setIfInBounds_toArray, List.set_cons_zero, List.set_cons_succ])
 go_cut [44] (fun v44 wc => ∃ (kq : Nat) (x44_3 : Bool), v44 = .bool x44_3 ∧ Aside0 (armadalaw04_JournalApart.j0 kq x44_3 l0_0 l0_1 a1_0 a1_1 a2_0 a2_1 = some true) ∧ Aside0 (kq ≤ k) ∧ Aside0 (wc.heap[gb423]? = some (.cells #[(.slice A0_0 l0_0.length c0_0), (.slice A0_1 l0_1.length c0_1)] 25 (0, 0))) ∧ Aside0 (wc.heap[gb424]? = some (.cells #[.int .i64 a1_0, .int .i64 a1_1] 27 (0, 0))) ∧ Aside0 (wc.heap[gb425]? = some (.cells #[.int .i64 a2_0, .string a2_1] 29 (0, 0))) ∧ Aside0 (Below w.heap.size w wc))
 case first =>
  have H := HC4.out
  clear HC4
  replace H := Option.bind_eq_some_iff.mp H
  obtain ⟨t426, A80, H⟩ := H
  try dsimp only at H
  have A8 := Aside0.mk A80
  clear A80
  by_cases c9 : t426 = true
  ·subst c9
   rw [if_pos rfl] at H
   by_cases c10 : (a2_1.size : Int) > 32
   ·rw [if_pos c10] at H
    have c10b0 : decide (32 < (a2_1.size : Int)) = true := decide_eq_true c10
    have c10b1 : decide (32 < a2_1.size) = true := decide_eq_true (by omega)
    clear c10
    (first | rw [c10b0] | (simp only [i64_w, i32_w]; rw [c10b0]) | skip)
    have H' := Aside0.mk H
    clear H
    obtain ⟨hnb11, hnc11⟩ := nn_ NB423_424
    obtain ⟨hnb12, hnc12⟩ := nn_ NB423_425
    obtain ⟨hcz13_0, hcz13_1, hfz13_0, hfz13_1⟩ := e2_ BK423
    go_wp2_with (first | ((with_reducible refine gate_callee (f := 7) rfl ?_); refine gL (some 14) Try.func7 #[.agg #[.slice A0_0 l0_0.length c0_0, .slice A0_1 l0_1.length c0_1]] ?_; (with_reducible refine (armadaref01_Small.calls k _ _ l0_0 _ _ l0_1 true _ ?side1 ?side2 ?side3 ?side4 A8.out).mono ?_); (case side1 => exact qC HR0_0); (case side2 => exact HC0_0.out); (case side3 => exact qC HR0_1); (case side4 => exact HC0_1.out); rintro e w14 ⟨rfl, hb⟩; refine ⟨_, rfl, ?_⟩; have hz_ := zqA HB hb; replace hb := below_step hz_ hb; replace BK423 := zB BK423 hb; replace BK424 := zB BK424 hb; replace BK425 := zB BK425 hb; replace HB := zH HB hb; clear hz_; (try clear hb); obtain ⟨hnb15, hnc15⟩ := nn_ NB425_424; obtain ⟨hcz16_0, hcz16_1, hfz16_0, hfz16_1⟩ := e2_ BK425))
    go_meet
    case rel => exact ⟨_, (true), eY, H', ⟨by first | omega | exact Nat.le_refl _⟩, ⟨qB BK423⟩, ⟨qB BK424⟩, ⟨qB BK425⟩, ⟨qH⟩⟩
   ·rw [if_neg c10] at H
    have c10b0 : decide (32 < (a2_1.size : Int)) = false := decide_eq_false c10
    have c10b1 : decide (32 < a2_1.size) = false := decide_eq_false (by omega)
    clear c10
    (first | rw [c10b0] | (simp only [i64_w, i32_w]; rw [c10b0]) | skip)
    replace H := Option.bind_eq_some_iff.mp H
    obtain ⟨t427, A170, H⟩ := H
    try dsimp only at H
    have A17 := Aside0.mk A170
    clear A170
    by_cases c18 : t427 = true
    ·subst c18
     rw [if_pos rfl] at H
     by_cases c19 : a2_0 ≥ a1_0
     ·rw [if_pos c19] at H
      have c19b0 : decide (a1_0 ≤ a2_0) = true := decide_eq_true c19
      clear c19
      have H' := Aside0.mk H
      clear H
      obtain ⟨hnb20, hnc20⟩ := nn_ NB423_424
      obtain ⟨hnb21, hnc21⟩ := nn_ NB423_425
      obtain ⟨hcz22_0, hcz22_1, hfz22_0, hfz22_1⟩ := e2_ BK423
      go_wp2_with (first | ((with_reducible refine gate_callee (f := 7) rfl ?_); refine gL (some 14) Try.func7 #[.agg #[.slice A0_0 l0_0.length c0_0, .slice A0_1 l0_1.length c0_1]] ?_; (with_reducible refine (armadaref01_Small.calls k _ _ l0_0 _ _ l0_1 true _ ?side1 ?side2 ?side3 ?side4 A8.out).mono ?_); (case side1 => exact qC HR0_0); (case side2 => exact HC0_0.out); (case side3 => exact qC HR0_1); (case side4 => exact HC0_1.out); rintro e w23 ⟨rfl, hb⟩; refine ⟨_, rfl, ?_⟩; have hz_ := zqA HB hb; replace hb := below_step hz_ hb; replace BK423 := zB BK423 hb; replace BK424 := zB BK424 hb; replace BK425 := zB BK425 hb; replace HB := zH HB hb; clear hz_; (try clear hb); obtain ⟨hnb24, hnc24⟩ := nn_ NB425_424; obtain ⟨hcz25_0, hcz25_1, hfz25_0, hfz25_1⟩ := e2_ BK425; obtain ⟨hcz26_0, hcz26_1, hfz26_0, hfz26_1⟩ := e2_ BK423; obtain ⟨hcz27_0, hcz27_1, hfz27_0, hfz27_1⟩ := e2_ BK424) | (go_at_call 8; (with_reducible refine (armadaref04_Lies.calls k _ _ l0_0 _ _ l0_1 a1_0 a1_1 true _ ?side1 ?side2 ?side3 ?side4 A17.out).mono ?_); (case side1 => exact qC HR0_0); (case side2 => exact HC0_0.out); (case side3 => exact qC HR0_1); (case side4 => exact HC0_1.out); rintro e w28 ⟨rfl, hb⟩; have hz_ := zqA HB hb; replace hb := below_step hz_ hb; replace BK423 := zB BK423 hb; replace BK424 := zB BK424 hb; replace BK425 := zB BK425 hb; replace HB := zH HB hb; clear hz_; (try clear hb); obtain ⟨hcz29_0, hcz29_1, hfz29_0, hfz29_1⟩ := e2_ BK425; obtain ⟨hcz30_0, hcz30_1, hfz30_0, hfz30_1⟩ := e2_ BK424))
      go_meet
      case rel => exact ⟨_, (decide (a2_0 < (wrap64 (a1_0 + a1_1)))), eY, H', ⟨by first | omega | exact Nat.le_refl _⟩, ⟨qB BK423⟩, ⟨qB BK424⟩, ⟨qB BK425⟩, ⟨qH⟩⟩
     ·rw [if_neg c19] at H
      have c19b0 : decide (a1_0 ≤ a2_0) = false := decide_eq_false c19
      clear c19
      have H' := Aside0.mk H
      clear H
      obtain ⟨hnb31, hnc31⟩ := nn_ NB423_424
      obtain ⟨hnb32, hnc32⟩ := nn_ NB423_425
      obtain ⟨hcz33_0, hcz33_1, hfz33_0, hfz33_1⟩ := e2_ BK423
      go_wp2_with (first | ((with_reducible refine gate_callee (f := 7) rfl ?_); refine gL (some 14) Try.func7 #[.agg #[.slice A0_0 l0_0.length c0_0, .slice A0_1 l0_1.length c0_1]] ?_; (with_reducible refine (armadaref01_Small.calls k _ _ l0_0 _ _ l0_1 true _ ?side1 ?side2 ?side3 ?side4 A8.out).mono ?_); (case side1 => exact qC HR0_0); (case side2 => exact HC0_0.out); (case side3 => exact qC HR0_1); (case side4 => exact HC0_1.out); rintro e w34 ⟨rfl, hb⟩; refine ⟨_, rfl, ?_⟩; have hz_ := zqA HB hb; replace hb := below_step hz_ hb; replace BK423 := zB BK423 hb; replace BK424 := zB BK424 hb; replace BK425 := zB BK425 hb; replace HB := zH HB hb; clear hz_; (try clear hb); obtain ⟨hnb35, hnc35⟩ := nn_ NB425_424; obtain ⟨hcz36_0, hcz36_1, hfz36_0, hfz36_1⟩ := e2_ BK425; obtain ⟨hcz37_0, hcz37_1, hfz37_0, hfz37_1⟩ := e2_ BK423; obtain ⟨hcz38_0, hcz38_1, hfz38_0, hfz38_1⟩ := e2_ BK424) | (go_at_call 8; (with_reducible refine (armadaref04_Lies.calls k _ _ l0_0 _ _ l0_1 a1_0 a1_1 true _ ?side1 ?side2 ?side3 ?side4 A17.out).mono ?_); (case side1 => exact qC HR0_0); (case side2 => exact HC0_0.out); (case side3 => exact qC HR0_1); (case side4 => exact HC0_1.out); rintro e w39 ⟨rfl, hb⟩; have hz_ := zqA HB hb; replace hb := below_step hz_ hb; replace BK423 := zB BK423 hb; replace BK424 := zB BK424 hb; replace BK425 := zB BK425 hb; replace HB := zH HB hb; clear hz_; (try clear hb); obtain ⟨hcz40_0, hcz40_1, hfz40_0, hfz40_1⟩ := e2_ BK425; obtain ⟨hcz41_0, hcz41_1, hfz41_0, hfz41_1⟩ := e2_ BK424))
      go_meet
      case rel => exact ⟨_, (false), eY, H', ⟨by first | omega | exact Nat.le_refl _⟩, ⟨qB BK423⟩, ⟨qB BK424⟩, ⟨qB BK425⟩, ⟨qH⟩⟩
    ·replace c18 := Bool.eq_false_iff.mpr c18
     subst c18
     rw [if_neg nF_] at H
     have H' := Aside0.mk H
     clear H
     obtain ⟨hnb42, hnc42⟩ := nn_ NB423_424
     obtain ⟨hnb43, hnc43⟩ := nn_ NB423_425
     obtain ⟨hcz44_0, hcz44_1, hfz44_0, hfz44_1⟩ := e2_ BK423
     go_wp2_with (first | ((with_reducible refine gate_callee (f := 7) rfl ?_); refine gL (some 14) Try.func7 #[.agg #[.slice A0_0 l0_0.length c0_0, .slice A0_1 l0_1.length c0_1]] ?_; (with_reducible refine (armadaref01_Small.calls k _ _ l0_0 _ _ l0_1 true _ ?side1 ?side2 ?side3 ?side4 A8.out).mono ?_); (case side1 => exact qC HR0_0); (case side2 => exact HC0_0.out); (case side3 => exact qC HR0_1); (case side4 => exact HC0_1.out); rintro e w45 ⟨rfl, hb⟩; refine ⟨_, rfl, ?_⟩; have hz_ := zqA HB hb; replace hb := below_step hz_ hb; replace BK423 := zB BK423 hb; replace BK424 := zB BK424 hb; replace BK425 := zB BK425 hb; replace HB := zH HB hb; clear hz_; (try clear hb); obtain ⟨hnb46, hnc46⟩ := nn_ NB425_424; obtain ⟨hcz47_0, hcz47_1, hfz47_0, hfz47_1⟩ := e2_ BK425; obtain ⟨hcz48_0, hcz48_1, hfz48_0, hfz48_1⟩ := e2_ BK423; obtain ⟨hcz49_0, hcz49_1, hfz49_0, hfz49_1⟩ := e2_ BK424) | (go_at_call 8; (with_reducible refine (armadaref04_Lies.calls k _ _ l0_0 _ _ l0_1 a1_0 a1_1 false _ ?side1 ?side2 ?side3 ?side4 A17.out).mono ?_); (case side1 => exact qC HR0_0); (case side2 => exact HC0_0.out); (case side3 => exact qC HR0_1); (case side4 => exact HC0_1.out); rintro e w50 ⟨rfl, hb⟩; have hz_ := zqA HB hb; replace hb := below_step hz_ hb; replace BK423 := zB BK423 hb; replace BK424 := zB BK424 hb; replace BK425 := zB BK425 hb; replace HB := zH HB hb; clear hz_; (try clear hb)))
     go_meet
     case rel => exact ⟨_, (true), eY, H', ⟨by first | omega | exact Nat.le_refl _⟩, ⟨qB BK423⟩, ⟨qB BK424⟩, ⟨qB BK425⟩, ⟨qH⟩⟩
  ·replace c9 := Bool.eq_false_iff.mpr c9
   subst c9
   rw [if_neg nF_] at H
   have H' := Aside0.mk H
   clear H
   obtain ⟨hnb51, hnc51⟩ := nn_ NB423_424
   obtain ⟨hnb52, hnc52⟩ := nn_ NB423_425
   obtain ⟨hcz53_0, hcz53_1, hfz53_0, hfz53_1⟩ := e2_ BK423
   go_wp2_with (first | ((with_reducible refine gate_callee (f := 7) rfl ?_); refine gL (some 14) Try.func7 #[.agg #[.slice A0_0 l0_0.length c0_0, .slice A0_1 l0_1.length c0_1]] ?_; (with_reducible refine (armadaref01_Small.calls k _ _ l0_0 _ _ l0_1 false _ ?side1 ?side2 ?side3 ?side4 A8.out).mono ?_); (case side1 => exact qC HR0_0); (case side2 => exact HC0_0.out); (case side3 => exact qC HR0_1); (case side4 => exact HC0_1.out); rintro e w54 ⟨rfl, hb⟩; refine ⟨_, rfl, ?_⟩; have hz_ := zqA HB hb; replace hb := below_step hz_ hb; replace BK423 := zB BK423 hb; replace BK424 := zB BK424 hb; replace BK425 := zB BK425 hb; replace HB := zH HB hb; clear hz_; (try clear hb)))
   go_meet
   case rel => exact ⟨_, (true), eY, H', ⟨by first | omega | exact Nat.le_refl _⟩, ⟨qB BK423⟩, ⟨qB BK424⟩, ⟨qB BK425⟩, ⟨qH⟩⟩
 case rest =>
  clear HC4
  (try clear p2); (try clear p6)
  obtain ⟨kq, x44_3, rfl, HA, HJ3, BK423, BK424, BK425, HB⟩ := hcut
  cases kq with
  | zero => exact absurd HA.out (by simp [armadalaw04_JournalApart.j0])
  | succ kj3 =>
   have H := HA.out
   clear HA
   simp only [armadalaw04_JournalApart.j0] at H
   by_cases c55 : x44_3 = true
   ·subst c55
    rw [if_pos rfl] at H
    replace H := Option.bind_eq_some_iff.mp H
    obtain ⟨t428, A560, H⟩ := H
    try dsimp only at H
    have A56 := Aside0.mk A560
    clear A560
    obtain rfl := Option.some.inj H
    go_wp2_with (first | ((with_reducible refine gate_callee (f := 9) rfl ?_); refine gL (some 45) Try.func9 #[] ?_; (with_reducible refine (armadalaw04_live.calls kj3  true _ A56.out).mono ?_); rintro e w57 ⟨rfl, hb⟩; refine ⟨_, rfl, ?_⟩; have hz_ := zqA HB hb; replace hb := below_step hz_ hb; replace BK423 := zB BK423 hb; replace BK424 := zB BK424 hb; replace BK425 := zB BK425 hb; replace HB := zH HB hb; clear hz_; (try clear hb)))
    go_ret
    exact ⟨eX, qH⟩
   ·replace c55 := Bool.eq_false_iff.mpr c55
    subst c55
    rw [if_neg nF_] at H
    replace H := Option.bind_eq_some_iff.mp H
    obtain ⟨⟨t429, t432, t435⟩, A580, H⟩ := H
    try dsimp only at H
    have A58 := Aside0.mk A580
    clear A580
    by_cases c59 : t435 = 0
    ·rw [if_pos c59] at H
     have c59b0 : (t435 == 0) = true := beq_iff_eq.mpr c59
     have c59b1 : (t435 != 0) = false := bne_eq_false_iff_eq.mpr c59
     clear c59
     replace H := Option.bind_eq_some_iff.mp H
     obtain ⟨⟨t438, t439, t442, t443⟩, A600, H⟩ := H
     try dsimp only at H
     have A60 := Aside0.mk A600
     clear A600
     replace H := Option.bind_eq_some_iff.mp H
     obtain ⟨⟨t445, t446, t449, t450⟩, A610, H⟩ := H
     try dsimp only at H
     have A61 := Aside0.mk A610
     clear A610
     replace H := Option.bind_eq_some_iff.mp H
     obtain ⟨⟨t452, t453, t456⟩, A620, H⟩ := H
     try dsimp only at H
     have A62 := Aside0.mk A620
     clear A620
     replace H := Option.bind_eq_some_iff.mp H
     obtain ⟨⟨t457, t458, t461⟩, A630, H⟩ := H
     try dsimp only at H
     have A63 := Aside0.mk A630
     clear A630
     replace H := Option.bind_eq_some_iff.mp H
     obtain ⟨t462, A640, H⟩ := H
     try dsimp only at H
     have A64 := Aside0.mk A640
     clear A640
     by_cases c65 : t462 = true
     ·subst c65
      rw [if_pos rfl] at H
      by_cases c66 : t443 = t450
      ·rw [if_pos c66] at H
       have c66b0 : (t443 == t450) = true := beq_iff_eq.mpr c66
       have c66b1 : (t443 != t450) = false := bne_eq_false_iff_eq.mpr c66
       clear c66
       replace H := Option.bind_eq_some_iff.mp H
       obtain ⟨t463, A670, H⟩ := H
       try dsimp only at H
       have A67 := Aside0.mk A670
       clear A670
       replace H := Option.bind_eq_some_iff.mp H
       obtain ⟨t464, A680, H⟩ := H
       try dsimp only at H
       have A68 := Aside0.mk A680
       clear A680
       by_cases c69 : (t463 == t464) = true
       ·rw [if_pos c69] at H
        have c69b0 : (t463 == t464) = true := c69
        (try (have c69b1 : decide (t463 = t464) = true := by simpa using c69))
        (try (have c69b2 : (t463 == t464) = true := by simpa using c69))
        clear c69
        replace H := Option.bind_eq_some_iff.mp H
        obtain ⟨t465, A700, H⟩ := H
        try dsimp only at H
        have A70 := Aside0.mk A700
        clear A700
        obtain rfl := Option.some.inj H
        obtain ⟨hnb71, hnc71⟩ := nn_ NB423_424
        obtain ⟨hnb72, hnc72⟩ := nn_ NB423_425
        obtain ⟨hcz73_0, hcz73_1, hfz73_0, hfz73_1⟩ := e2_ BK423
        obtain ⟨hnb74, hnc74⟩ := nn_ NB425_424
        obtain ⟨hcz75_0, hcz75_1, hfz75_0, hfz75_1⟩ := e2_ BK425
        try go_wp2_with (first | ((with_reducible refine gate_callee (f := 10) rfl ?_); refine gL (some 52) Try.func10 #[.agg #[.slice A0_0 l0_0.length c0_0, .slice A0_1 l0_1.length c0_1], .int .i64 a2_0, .string a2_1] ?_; (with_reducible refine (disk_Put.calls kj3 (fun k_ => k_ < w.heap.size) _ _ l0_0 (fun k_ => k_ < w.heap.size) _ _ l0_1 a2_0 a2_1 t429 t432 t435 _ ?side1 ?side2 A58.out).mono ?_); (case side1 => exact Kd.V_mk HC0_0.out (Kd.F_below (Kd.C_F Kd.heap_string HR0_0.out) qH)); (case side2 => exact Kd.V_mk HC0_1.out (Kd.F_below (Kd.C_F k29_heap HR0_1.out) qH)); rintro e w76 ⟨v430, v433, rfl, ho0, ho1, hb⟩; refine ⟨_, rfl, ?_⟩; have hz_ := zqA HB hb; replace hb := below_step hz_ hb; have HO431 := Aside0.mk (Kd.V_lower (Kd.V_mono (ok' := fun k_ => k_ ≠ gb423 ∧ k_ ≠ gb424 ∧ k_ ≠ gb425) ho0 (fun k_ hk_ => ⟨Or.elim hk_ (fun hs_ => Or.elim hs_ (zg GW423) (zg GW423)) (zf BK423 hz_ k_), Or.elim hk_ (fun hs_ => Or.elim hs_ (zg GW424) (zg GW424)) (zf BK424 hz_ k_), Or.elim hk_ (fun hs_ => Or.elim hs_ (zg GW425) (zg GW425)) (zf BK425 hz_ k_)⟩)) (zs HB hz_)); have HO434 := Aside0.mk (Kd.V_lower (Kd.V_mono (ok' := fun k_ => k_ ≠ gb423 ∧ k_ ≠ gb424 ∧ k_ ≠ gb425) ho1 (fun k_ hk_ => ⟨Or.elim hk_ (fun hs_ => Or.elim hs_ (zg GW423) (zg GW423)) (zf BK423 hz_ k_), Or.elim hk_ (fun hs_ => Or.elim hs_ (zg GW424) (zg GW424)) (zf BK424 hz_ k_), Or.elim hk_ (fun hs_ => Or.elim hs_ (zg GW425) (zg GW425)) (zf BK425 hz_ k_)⟩)) (zs HB hz_)); replace BK423 := zB BK423 hb; replace BK424 := zB BK424 hb; replace BK425 := zB BK425 hb; replace HB := zH HB hb; clear hz_; (try clear hb); (try clear ho0); (try clear ho1)) | ((with_reducible refine gate_dst (N := 7) rfl ?_); (try (refine gate_guard (by rfl) ?_; dsimp only)); refine bE (N := 7) (cs := #[.slice none 0 0, .slice none 0 0]) (t := 25) ?_; intro gb436 hg w77 hbox hb; have hz_ := zqA HB hb; replace hb := below_step hz_ hb; replace HO431 := zE HO431 hz_ hg hb; replace HO434 := zE HO434 hz_ hg hb; have BK436 := Aside0.mk hbox; have GE436 := zG HB hz_ hg; have NB423_436 := zN BK423 hz_ hg; have NB436_423 := zM BK423 hz_ hg; have NB424_436 := zN BK424 hz_ hg; have NB436_424 := zM BK424 hz_ hg; have NB425_436 := zN BK425 hz_ hg; have NB436_425 := zM BK425 hz_ hg; replace BK423 := zB BK423 hb; replace BK424 := zB BK424 hb; replace BK425 := zB BK425 hb; replace HB := zH HB hb; clear hz_; clear hb hbox hg; obtain ⟨Ao78, co78, eo78⟩ := Kd.V_slice HO431.out; subst eo78; obtain ⟨hnb79, hnc79⟩ := nn_ NB436_423; obtain ⟨hnb80, hnc80⟩ := nn_ NB436_424; obtain ⟨hnb81, hnc81⟩ := nn_ NB436_425; obtain ⟨hcz82_0, hcz82_1, hfz82_0, hfz82_1⟩ := e2_ BK436; obtain ⟨Ao83, co83, eo83⟩ := Kd.V_slice HO434.out; subst eo83; obtain ⟨hcz84_0, hcz84_1, hfz84_0, hfz84_1⟩ := e2_ BK423; obtain ⟨hcz85_0, hcz85_1, hfz85_0, hfz85_1⟩ := e2_ BK424) | ((with_reducible refine gate_callee (f := 11) rfl ?_); refine gL (some 61) Try.func11 #[.agg #[.slice A0_0 l0_0.length c0_0, .slice A0_1 l0_1.length c0_1], .agg #[.int .i64 a1_0, .int .i64 a1_1]] ?_; (with_reducible refine (journal_Open.calls kj3 _ _ l0_0 _ _ l0_1 a1_0 a1_1 t438 t439 t442 t443 _ ?side1 ?side2 ?side3 ?side4 A60.out).mono ?_); (case side1 => exact Kd.C_below HR0_0.out qH); (case side2 => exact HC0_0.out); (case side3 => exact Kd.C_below HR0_1.out qH); (case side4 => exact HC0_1.out); rintro e w86 ⟨v440, rfl, ho0, hb⟩; refine ⟨_, rfl, ?_⟩; replace HO431 := Aside0.mk (Kd.V_elder' (qV (vF2 HO431.out (fun _ hk => hk.2))) (Kd.R_base ho0) hb); replace HO434 := Aside0.mk (Kd.V_elder' (qV (vF2 HO434.out (fun _ hk => hk.2))) (Kd.R_base ho0) hb); have HO441 := Aside0.mk (Kd.R_lower ho0 (below_size qH)); replace BK423 := wF BK423 hb; replace BK424 := wF BK424 hb; replace BK425 := wF BK425 hb; replace BK436 := wP2 BK436 hb; replace HB := wH hb; (try clear hb); (try clear ho0)) | ((with_reducible refine gate_dst (N := 9) rfl ?_); (try (refine gate_guard (by rfl) ?_; dsimp only)); refine bE (N := 9) (cs := #[.int .i64 0, .slice none 0 0, .int .i64 0]) (t := 37) ?_; intro gb444 hg w87 hbox hb; have hz_ := zqA HB hb; replace hb := below_step hz_ hb; replace HO431 := zE HO431 hz_ hg hb; replace HO434 := zE HO434 hz_ hg hb; replace HO441 := zR HO441 hb; have BK444 := Aside0.mk hbox; have GE444 := zG HB hz_ hg; have NB423_444 := zN BK423 hz_ hg; have NB444_423 := zM BK423 hz_ hg; have NB424_444 := zN BK424 hz_ hg; have NB444_424 := zM BK424 hz_ hg; have NB425_444 := zN BK425 hz_ hg; have NB444_425 := zM BK425 hz_ hg; have NB436_444 := zN BK436 hz_ hg; have NB444_436 := zM BK436 hz_ hg; replace BK423 := zB BK423 hb; replace BK424 := zB BK424 hb; replace BK425 := zB BK425 hb; replace BK436 := zB BK436 hb; replace HB := zH HB hb; clear hz_; clear hb hbox hg; obtain ⟨hnb88, hnc88⟩ := nn_ NB444_423; obtain ⟨hnb89, hnc89⟩ := nn_ NB444_424; obtain ⟨hnb90, hnc90⟩ := nn_ NB444_425; obtain ⟨hnb91, hnc91⟩ := nn_ NB444_436; obtain ⟨hcz92_0, hcz92_1, hcz92_2, hfz92_0, hfz92_1, hfz92_2⟩ := e3_ BK444; obtain ⟨Ao93, co93, eo93⟩ := Kd.R_slice HO441.out; subst eo93; obtain ⟨hcz94_0, hcz94_1, hfz94_0, hfz94_1⟩ := e2_ BK436; obtain ⟨hcz95_0, hcz95_1, hfz95_0, hfz95_1⟩ := e2_ BK424) | ((with_reducible refine gate_callee (f := 11) rfl ?_); refine gL (some 67) Try.func11 #[.agg #[.slice Ao78 t429.length co78, .slice Ao83 t432.length co83], .agg #[.int .i64 a1_0, .int .i64 a1_1]] ?_; (with_reducible refine (journal_Open.calls kj3 _ _ t429 _ _ t432 a1_0 a1_1 t445 t446 t449 t450 _ ?side1 ?side2 ?side3 ?side4 A61.out).mono ?_); (case side1 => refine (Kd.V_reads' (e := 9) (base := w.heap.size) (ok := fun k_ => ((((k_ ≠ gb423 ∧ (k_ ≠ gb424 ∧ k_ ≠ gb425)) ∧ k_ ≠ gb436) ∧ some k_ ≠ (.slice Ao93 t439.length co93 : Value).ownBlock) ∧ k_ ≠ gb444)) (n := t429.length) (c := co78) ?_).2.2; exact (qV (vF3 HO431.out (fun _ hk => hk.2)))); (case side2 => exact (Kd.V_reads' HO431.out).2.1); (case side3 => refine (Kd.V_reads' (e := 29) (base := w.heap.size) (ok := fun k_ => ((((k_ ≠ gb423 ∧ (k_ ≠ gb424 ∧ k_ ≠ gb425)) ∧ k_ ≠ gb436) ∧ some k_ ≠ (.slice Ao93 t439.length co93 : Value).ownBlock) ∧ k_ ≠ gb444)) (n := t432.length) (c := co83) ?_).2.2; exact (qV (vF3 HO434.out (fun _ hk => hk.2)))); (case side4 => exact (Kd.V_reads' HO434.out).2.1); rintro e w96 ⟨v447, rfl, ho0, hb⟩; refine ⟨_, rfl, ?_⟩; replace HO431 := Aside0.mk (Kd.V_elder' (qV (vF3 HO431.out (fun _ hk => hk.2))) (Kd.R_base ho0) hb); replace HO434 := Aside0.mk (Kd.V_elder' (qV (vF3 HO434.out (fun _ hk => hk.2))) (Kd.R_base ho0) hb); have HO448 := Aside0.mk (Kd.R_lower (Kd.R_new' ho0 (Kd.R_lt (qR (rF3 HO441.out BK444)))) (below_size qH)); replace BK423 := wF BK423 hb; replace BK424 := wF BK424 hb; replace BK425 := wF BK425 hb; replace BK436 := wF BK436 hb; replace HO441 := Aside0.mk (Kd.R_elder' (qR (rF3 HO441.out BK444)) (Kd.R_base ho0) hb); replace HB := wH hb; replace BK444 := wP3 BK444 hb; (try clear hb); (try clear ho0)) | ((with_reducible refine gate_dst (N := 11) rfl ?_); (try (refine gate_guard (by rfl) ?_; dsimp only)); refine bE (N := 11) (cs := #[.int .i64 0, .slice none 0 0, .int .i64 0]) (t := 37) ?_; intro gb451 hg w97 hbox hb; have hz_ := zqA HB hb; replace hb := below_step hz_ hb; replace HO431 := zE HO431 hz_ hg hb; replace HO434 := zE HO434 hz_ hg hb; replace HO441 := zR HO441 hb; replace HO448 := zR HO448 hb; have BK451 := Aside0.mk hbox; have GE451 := zG HB hz_ hg; have NB423_451 := zN BK423 hz_ hg; have NB451_423 := zM BK423 hz_ hg; have NB424_451 := zN BK424 hz_ hg; have NB451_424 := zM BK424 hz_ hg; have NB425_451 := zN BK425 hz_ hg; have NB451_425 := zM BK425 hz_ hg; have NB436_451 := zN BK436 hz_ hg; have NB451_436 := zM BK436 hz_ hg; have NB444_451 := zN BK444 hz_ hg; have NB451_444 := zM BK444 hz_ hg; replace BK423 := zB BK423 hb; replace BK424 := zB BK424 hb; replace BK425 := zB BK425 hb; replace BK436 := zB BK436 hb; replace BK444 := zB BK444 hb; replace HB := zH HB hb; clear hz_; clear hb hbox hg; obtain ⟨hnb98, hnc98⟩ := nn_ NB451_423; obtain ⟨hnb99, hnc99⟩ := nn_ NB451_424; obtain ⟨hnb100, hnc100⟩ := nn_ NB451_425; obtain ⟨hnb101, hnc101⟩ := nn_ NB451_436; obtain ⟨hnb102, hnc102⟩ := nn_ NB451_444; obtain ⟨hcz103_0, hcz103_1, hcz103_2, hfz103_0, hfz103_1, hfz103_2⟩ := e3_ BK451; obtain ⟨Ao104, co104, eo104⟩ := Kd.R_slice HO448.out; subst eo104))
        have n0_ : Aside0 (Kd.V Kd.string 9 (((w97.setCell ⟨gb451, 0, none⟩ (.int .i64 t445)).setCell ⟨gb451, 1, none⟩ (.slice Ao104 t446.length co104)).setCell ⟨gb451, 2, none⟩ (.int .i64 t449)) w.heap.size (fun k_ => some k_ ≠ (.slice Ao93 t439.length co93 : Value).ownBlock ∧ some k_ ≠ (.slice Ao104 t446.length co104 : Value).ownBlock ∧ k_ ≠ gb423 ∧ k_ ≠ gb424 ∧ k_ ≠ gb425 ∧ k_ ≠ gb436 ∧ k_ ≠ gb444 ∧ k_ ≠ gb451) (.slice Ao78 t429.length co78) t429) := ⟨by (with_reducible repeat (first | apply Kd.V_alloc | apply Kd.V_drewN | apply Kd.V_drew)); exact Kd.V_mono (vG3 (g := gb451) HO431.out (fun _ hk => hk.2)) (fun _ hk => ⟨hk.1.1.1.1.2, ⟨hk.1.1.2, ⟨hk.1.1.1.1.1.1.1, ⟨hk.1.1.1.1.1.1.2.1, ⟨hk.1.1.1.1.1.1.2.2, ⟨hk.1.1.1.1.1.2, ⟨hk.1.1.1.2, hk.1.2⟩⟩⟩⟩⟩⟩⟩)⟩
        have n1_ : Aside0 (Kd.V k29 29 (((w97.setCell ⟨gb451, 0, none⟩ (.int .i64 t445)).setCell ⟨gb451, 1, none⟩ (.slice Ao104 t446.length co104)).setCell ⟨gb451, 2, none⟩ (.int .i64 t449)) w.heap.size (fun k_ => some k_ ≠ (.slice Ao93 t439.length co93 : Value).ownBlock ∧ some k_ ≠ (.slice Ao104 t446.length co104 : Value).ownBlock ∧ k_ ≠ gb423 ∧ k_ ≠ gb424 ∧ k_ ≠ gb425 ∧ k_ ≠ gb436 ∧ k_ ≠ gb444 ∧ k_ ≠ gb451) (.slice Ao83 t432.length co83) t432) := ⟨by (with_reducible repeat (first | apply Kd.V_alloc | apply Kd.V_drewN | apply Kd.V_drew)); exact Kd.V_mono (vG3 (g := gb451) HO434.out (fun _ hk => hk.2)) (fun _ hk => ⟨hk.1.1.1.1.2, ⟨hk.1.1.2, ⟨hk.1.1.1.1.1.1.1, ⟨hk.1.1.1.1.1.1.2.1, ⟨hk.1.1.1.1.1.1.2.2, ⟨hk.1.1.1.1.1.2, ⟨hk.1.1.1.2, hk.1.2⟩⟩⟩⟩⟩⟩⟩)⟩
        have n2_ : Aside0 (Kd.R Kd.string 9 (((w97.setCell ⟨gb451, 0, none⟩ (.int .i64 t445)).setCell ⟨gb451, 1, none⟩ (.slice Ao104 t446.length co104)).setCell ⟨gb451, 2, none⟩ (.int .i64 t449)) w.heap.size (fun k_ => some k_ ≠ (.slice Ao104 t446.length co104 : Value).ownBlock) (.slice Ao93 t439.length co93) t439) := ⟨by (with_reducible repeat (first | apply Kd.R_alloc | apply Kd.R_drewN | apply Kd.R_drew)); exact Kd.R_mono (rG3 HO441.out BK451) (fun _ hk => hk.1.2)⟩
        have n3_ : Aside0 (Kd.R Kd.string 9 (((w97.setCell ⟨gb451, 0, none⟩ (.int .i64 t445)).setCell ⟨gb451, 1, none⟩ (.slice Ao104 t446.length co104)).setCell ⟨gb451, 2, none⟩ (.int .i64 t449)) w.heap.size (fun k_ => some k_ ≠ (.slice Ao93 t439.length co93 : Value).ownBlock) (.slice Ao104 t446.length co104) t446) := ⟨by (with_reducible repeat (first | apply Kd.R_alloc | apply Kd.R_drewN | apply Kd.R_drew)); exact Kd.R_mono (rG3 HO448.out BK451) (fun _ hk => hk.1.2)⟩
        have n4_ : Aside0 ((((w97.setCell ⟨gb451, 0, none⟩ (.int .i64 t445)).setCell ⟨gb451, 1, none⟩ (.slice Ao104 t446.length co104)).setCell ⟨gb451, 2, none⟩ (.int .i64 t449)).heap[gb423]? = some (.cells #[.slice A0_0 l0_0.length c0_0, .slice A0_1 l0_1.length c0_1] 25 (0, 0))) := ⟨by (with_reducible repeat (first | apply xN_ | apply xD_ | apply xA_)); refine xR_ ?_ NB423_451.out _; refine xR_ ?_ NB423_451.out _; refine xR_ ?_ NB423_451.out _; (with_reducible repeat (first | apply xN_ | apply xD_ | apply xA_)); exact BK423.out⟩
        have n5_ : Aside0 ((((w97.setCell ⟨gb451, 0, none⟩ (.int .i64 t445)).setCell ⟨gb451, 1, none⟩ (.slice Ao104 t446.length co104)).setCell ⟨gb451, 2, none⟩ (.int .i64 t449)).heap[gb424]? = some (.cells #[.int .i64 a1_0, .int .i64 a1_1] 27 (0, 0))) := ⟨by (with_reducible repeat (first | apply xN_ | apply xD_ | apply xA_)); refine xR_ ?_ NB424_451.out _; refine xR_ ?_ NB424_451.out _; refine xR_ ?_ NB424_451.out _; (with_reducible repeat (first | apply xN_ | apply xD_ | apply xA_)); exact BK424.out⟩
        have n6_ : Aside0 ((((w97.setCell ⟨gb451, 0, none⟩ (.int .i64 t445)).setCell ⟨gb451, 1, none⟩ (.slice Ao104 t446.length co104)).setCell ⟨gb451, 2, none⟩ (.int .i64 t449)).heap[gb425]? = some (.cells #[.int .i64 a2_0, .string a2_1] 29 (0, 0))) := ⟨by (with_reducible repeat (first | apply xN_ | apply xD_ | apply xA_)); refine xR_ ?_ NB425_451.out _; refine xR_ ?_ NB425_451.out _; refine xR_ ?_ NB425_451.out _; (with_reducible repeat (first | apply xN_ | apply xD_ | apply xA_)); exact BK425.out⟩
        have n7_ : Aside0 ((((w97.setCell ⟨gb451, 0, none⟩ (.int .i64 t445)).setCell ⟨gb451, 1, none⟩ (.slice Ao104 t446.length co104)).setCell ⟨gb451, 2, none⟩ (.int .i64 t449)).heap[gb436]? = some (.cells #[.slice Ao78 t429.length co78, .slice Ao83 t432.length co83] 25 (0, 0))) := ⟨by (with_reducible repeat (first | apply xN_ | apply xD_ | apply xA_)); refine xR_ ?_ NB436_451.out _; refine xR_ ?_ NB436_451.out _; refine xR_ ?_ NB436_451.out _; (with_reducible repeat (first | apply xN_ | apply xD_ | apply xA_)); exact BK436.out⟩
        have n8_ : Aside0 ((((w97.setCell ⟨gb451, 0, none⟩ (.int .i64 t445)).setCell ⟨gb451, 1, none⟩ (.slice Ao104 t446.length co104)).setCell ⟨gb451, 2, none⟩ (.int .i64 t449)).heap[gb444]? = some (.cells #[.int .i64 t438, .slice Ao93 t439.length co93, .int .i64 t442] 37 (0, 0))) := ⟨by (with_reducible repeat (first | apply xN_ | apply xD_ | apply xA_)); refine xR_ ?_ NB444_451.out _; refine xR_ ?_ NB444_451.out _; refine xR_ ?_ NB444_451.out _; (with_reducible repeat (first | apply xN_ | apply xD_ | apply xA_)); exact BK444.out⟩
        have n9_ : Aside0 ((((w97.setCell ⟨gb451, 0, none⟩ (.int .i64 t445)).setCell ⟨gb451, 1, none⟩ (.slice Ao104 t446.length co104)).setCell ⟨gb451, 2, none⟩ (.int .i64 t449)).heap[gb451]? = some (.cells #[.int .i64 t445, .slice Ao104 t446.length co104, .int .i64 t449] 37 (0, 0))) := ⟨by (with_reducible repeat (first | apply xN_ | apply xD_ | apply xA_)); refine blk_put (cs := #[.int .i64 t445, .slice Ao104 t446.length co104, .int .i64 0]) ?_ 2 _ rfl; refine blk_put (cs := #[.int .i64 t445, .slice none 0 0, .int .i64 0]) ?_ 1 _ rfl; refine blk_put (cs := #[.int .i64 0, .slice none 0 0, .int .i64 0]) ?_ 0 _ rfl; (with_reducible repeat (first | apply xN_ | apply xD_ | apply xA_)); exact BK451.out⟩
        have n10_ : Aside0 (Below w.heap.size w (((w97.setCell ⟨gb451, 0, none⟩ (.int .i64 t445)).setCell ⟨gb451, 1, none⟩ (.slice Ao104 t446.length co104)).setCell ⟨gb451, 2, none⟩ (.int .i64 t449))) := ⟨qH⟩
        (try clear HO431)
        (try clear HO434)
        (try clear HO441)
        (try clear HO448)
        (try clear BK423)
        (try clear BK424)
        (try clear BK425)
        (try clear BK436)
        (try clear BK444)
        (try clear BK451)
        (try clear HB)
        generalize (((w97.setCell ⟨gb451, 0, none⟩ (.int .i64 t445)).setCell ⟨gb451, 1, none⟩ (.slice Ao104 t446.length co104)).setCell ⟨gb451, 2, none⟩ (.int .i64 t449)) = w105 at n0_ n1_ n2_ n3_ n4_ n5_ n6_ n7_ n8_ n9_ n10_ ⊢
        have HO431 := n0_
        have HO434 := n1_
        have HO441 := n2_
        have HO448 := n3_
        have BK423 := n4_
        have BK424 := n5_
        have BK425 := n6_
        have BK436 := n7_
        have BK444 := n8_
        have BK451 := n9_
        have HB := n10_
        clear n0_ n1_ n2_ n3_ n4_ n5_ n6_ n7_ n8_ n9_ n10_
        replace HO431 := Aside0.mk (Kd.V_drew HO431.out)
        replace HO434 := Aside0.mk (Kd.V_drew HO434.out)
        replace HO441 := Aside0.mk (Kd.R_drew HO441.out)
        replace HO448 := Aside0.mk (Kd.R_drew HO448.out)
        replace BK423 := Aside0.mk (xD_ BK423.out)
        replace BK424 := Aside0.mk (xD_ BK424.out)
        replace BK425 := Aside0.mk (xD_ BK425.out)
        replace BK436 := Aside0.mk (xD_ BK436.out)
        replace BK444 := Aside0.mk (xD_ BK444.out)
        replace BK451 := Aside0.mk (xD_ BK451.out)
        replace HB := Aside0.mk (yD_ HB.out)
        refine start_ (n := 25) (S := fun w' => w'.cell? ⟨gb444, 0, none⟩ = some (.int .i64 t438) ∧ w'.cell? ⟨gb444, 1, none⟩ = some (.slice Ao93 t439.length co93) ∧ w'.cell? ⟨gb444, 2, none⟩ = some (.int .i64 t442) ∧ w'.cell? ⟨gb451, 0, none⟩ = some (.int .i64 t445) ∧ w'.cell? ⟨gb451, 1, none⟩ = some (.slice Ao104 t446.length co104) ∧ w'.cell? ⟨gb451, 2, none⟩ = some (.int .i64 t449) ∧ w'.cell? ⟨gb423, 0, none⟩ = some (.slice A0_0 l0_0.length c0_0) ∧ w'.cell? ⟨gb423, 1, none⟩ = some (.slice A0_1 l0_1.length c0_1) ∧ w'.cell? ⟨gb424, 0, none⟩ = some (.int .i64 a1_0) ∧ w'.cell? ⟨gb424, 1, none⟩ = some (.int .i64 a1_1) ∧ w'.cell? ⟨gb436, 0, none⟩ = some (.slice Ao78 t429.length co78) ∧ w'.cell? ⟨gb436, 1, none⟩ = some (.slice Ao83 t432.length co83)) (ds := []) #[F_,F_,F_,F_,F_,F_,F_,F_,F_,F_,F_,F_,F_,F_,F_,F_,F_,F_,F_,F_,F_,F_,F_,F_,F_] (by kernel_rfl) rfl rfl ⟨c0_ BK444, c1_ BK444, c2_ BK444, c0_ BK451, c1_ BK451, c2_ BK451, c0_ BK423, c1_ BK423, c0_ BK424, c1_ BK424, c0_ BK436, c1_ BK436⟩ (fun hHeld => ?_); refine with_tabW armadalaw04_JournalApart.tab8 armadalaw04_JournalApart.bits8 (fun HT_ HW_ => ?_)
        generalize w105.drew = w106 at HO431 HO434 HO441 HO448 BK423 BK424 BK425 BK436 BK444 BK451 HB hHeld ⊢
        refine tK 0 (some 70) #[T_,F_,F_,F_,F_,F_,F_,F_,F_,F_,F_,F_,F_,F_,F_,F_,F_,F_,F_,F_,F_,F_,F_,F_,F_] HT_ HW_ hHeld ?_
        refine tK 2 (some 72) #[T_,F_,T_,F_,F_,F_,F_,F_,F_,F_,F_,F_,F_,F_,F_,F_,F_,F_,F_,F_,F_,F_,F_,F_,F_] HT_ HW_ hHeld ?_
        refine oN 1 (some 71) #[T_,T_,T_,F_,F_,F_,F_,F_,F_,F_,F_,F_,F_,F_,F_,F_,F_,F_,F_,F_,F_,F_,F_,F_,F_] HT_ (fun K hK => ?_)
        refine gO Try.func13 #[.agg #[.int .i64 t438, .slice Ao93 t439.length co93, .int .i64 t442]] ?_
        with_reducible refine (armadalaw04_told.calls t438 (fun k_ => some k_ = (.slice Ao93 t439.length co93 : Value).ownBlock) _ _ t439 t442 t452 t453 t456 _ ?side1 A62.out).mono ?_
        (case side1 => exact Kd.R_V (Kd.R_tight rfl (Kd.R_types (Kd.R_types (Kd.R_types (Kd.R_types (Kd.R_types (Kd.R_types (HO441.out) BK423.out (by decide)) BK424.out (by decide)) BK425.out (by decide)) BK436.out (by decide)) BK444.out (by decide)) BK451.out (by decide))))
        rintro e w107 ⟨v454, rfl, ho0, hb⟩
        refine ⟨_, rfl, ?_⟩
        replace HO431 := Aside0.mk (Kd.V_below (qV HO431.out) hb)
        replace HO434 := Aside0.mk (Kd.V_below (qV HO434.out) hb)
        have HO455 := Aside0.mk (Kd.V_lower (Kd.V_mono (ok' := fun k_ => some k_ ≠ (.slice Ao104 t446.length co104 : Value).ownBlock ∧ k_ ≠ gb423 ∧ k_ ≠ gb424 ∧ k_ ≠ gb425 ∧ k_ ≠ gb436 ∧ k_ ≠ gb444 ∧ k_ ≠ gb451) ho0 (fun k_ hk_ => ⟨Or.elim hk_ (fun hs_ => ((Kd.R_types (Kd.R_types (Kd.R_types (Kd.R_types (Kd.R_types (Kd.R_types (HO441.out) BK423.out (by decide)) BK424.out (by decide)) BK425.out (by decide)) BK436.out (by decide)) BK444.out (by decide)) BK451.out (by decide)).1 k_ hs_.symm).1.1.1.1.1.1) (fun hn_ => (Kd.fresh' (Kd.R_lt (qR HO448.out)) k_ hn_)), Or.elim hk_ (fun hs_ => ((Kd.R_types (Kd.R_types (Kd.R_types (Kd.R_types (Kd.R_types (Kd.R_types (HO441.out) BK423.out (by decide)) BK424.out (by decide)) BK425.out (by decide)) BK436.out (by decide)) BK444.out (by decide)) BK451.out (by decide)).1 k_ hs_.symm).1.1.1.1.1.2) (fun hn_ => (Kd.freshB (g := gb423) (o := .cells #[.slice A0_0 l0_0.length c0_0, .slice A0_1 l0_1.length c0_1] 25 (0, 0)) (qB BK423) k_ hn_)), Or.elim hk_ (fun hs_ => ((Kd.R_types (Kd.R_types (Kd.R_types (Kd.R_types (Kd.R_types (Kd.R_types (HO441.out) BK423.out (by decide)) BK424.out (by decide)) BK425.out (by decide)) BK436.out (by decide)) BK444.out (by decide)) BK451.out (by decide)).1 k_ hs_.symm).1.1.1.1.2) (fun hn_ => (Kd.freshB (g := gb424) (o := .cells #[.int .i64 a1_0, .int .i64 a1_1] 27 (0, 0)) (qB BK424) k_ hn_)), Or.elim hk_ (fun hs_ => ((Kd.R_types (Kd.R_types (Kd.R_types (Kd.R_types (Kd.R_types (Kd.R_types (HO441.out) BK423.out (by decide)) BK424.out (by decide)) BK425.out (by decide)) BK436.out (by decide)) BK444.out (by decide)) BK451.out (by decide)).1 k_ hs_.symm).1.1.1.2) (fun hn_ => (Kd.freshB (g := gb425) (o := .cells #[.int .i64 a2_0, .string a2_1] 29 (0, 0)) (qB BK425) k_ hn_)), Or.elim hk_ (fun hs_ => ((Kd.R_types (Kd.R_types (Kd.R_types (Kd.R_types (Kd.R_types (Kd.R_types (HO441.out) BK423.out (by decide)) BK424.out (by decide)) BK425.out (by decide)) BK436.out (by decide)) BK444.out (by decide)) BK451.out (by decide)).1 k_ hs_.symm).1.1.2) (fun hn_ => (Kd.freshB (g := gb436) (o := .cells #[.slice Ao78 t429.length co78, .slice Ao83 t432.length co83] 25 (0, 0)) (qB BK436) k_ hn_)), Or.elim hk_ (fun hs_ => ((Kd.R_types (Kd.R_types (Kd.R_types (Kd.R_types (Kd.R_types (Kd.R_types (HO441.out) BK423.out (by decide)) BK424.out (by decide)) BK425.out (by decide)) BK436.out (by decide)) BK444.out (by decide)) BK451.out (by decide)).1 k_ hs_.symm).1.2) (fun hn_ => (Kd.freshB (g := gb444) (o := .cells #[.int .i64 t438, .slice Ao93 t439.length co93, .int .i64 t442] 37 (0, 0)) (qB BK444) k_ hn_)), Or.elim hk_ (fun hs_ => ((Kd.R_types (Kd.R_types (Kd.R_types (Kd.R_types (Kd.R_types (Kd.R_types (HO441.out) BK423.out (by decide)) BK424.out (by decide)) BK425.out (by decide)) BK436.out (by decide)) BK444.out (by decide)) BK451.out (by decide)).1 k_ hs_.symm).2) (fun hn_ => (Kd.freshB (g := gb451) (o := .cells #[.int .i64 t445, .slice Ao104 t446.length co104, .int .i64 t449] 37 (0, 0)) (qB BK451) k_ hn_))⟩)) (below_size qH))
        replace HO441 := Aside0.mk (Kd.R_below (qR HO441.out) hb)
        replace HO448 := Aside0.mk (Kd.R_below (qR HO448.out) hb)
        replace BK423 := wB BK423 hb
        replace BK424 := wB BK424 hb
        replace BK425 := wB BK425 hb
        replace BK436 := wB BK436 hb
        replace BK444 := wB BK444 hb
        replace BK451 := wB BK451 hb
        replace HB := wH hb
        (try clear hb)
        (try clear hb2)
        (try clear hk)
        (try clear hi)
        (try clear ho0)
        refine hK.out _ _ ⟨c0_ BK444, c1_ BK444, c2_ BK444, c0_ BK451, c1_ BK451, c2_ BK451, c0_ BK423, c1_ BK423, c0_ BK424, c1_ BK424, c0_ BK436, c1_ BK436⟩ (fun hHeld => ?_)
        clear hK K
        refine nS (some 71) ?_
        refine oN 3 (some 73) #[T_,T_,T_,T_,F_,F_,F_,F_,F_,F_,F_,F_,F_,F_,F_,F_,F_,F_,F_,F_,F_,F_,F_,F_,F_] HT_ (fun K hK => ?_)
        refine gO Try.func13 #[.agg #[.int .i64 t445, .slice Ao104 t446.length co104, .int .i64 t449]] ?_
        with_reducible refine (armadalaw04_told.calls t445 (fun k_ => some k_ = (.slice Ao104 t446.length co104 : Value).ownBlock) _ _ t446 t449 t457 t458 t461 _ ?side1 A63.out).mono ?_
        (case side1 => exact Kd.R_V (Kd.R_tight rfl (Kd.R_types (Kd.R_types (Kd.R_types (Kd.R_types (Kd.R_types (Kd.R_types (HO448.out) BK423.out (by decide)) BK424.out (by decide)) BK425.out (by decide)) BK436.out (by decide)) BK444.out (by decide)) BK451.out (by decide))))
        rintro e w108 ⟨v459, rfl, ho0, hb⟩
        refine ⟨_, rfl, ?_⟩
        replace HO431 := Aside0.mk (Kd.V_below (qV HO431.out) hb)
        replace HO434 := Aside0.mk (Kd.V_below (qV HO434.out) hb)
        replace HO455 := Aside0.mk (Kd.V_below (qV HO455.out) hb)
        have HO460 := Aside0.mk (Kd.V_lower (Kd.V_mono (ok' := fun k_ => some k_ ≠ (.slice Ao93 t439.length co93 : Value).ownBlock ∧ k_ ≠ gb423 ∧ k_ ≠ gb424 ∧ k_ ≠ gb425 ∧ k_ ≠ gb436 ∧ k_ ≠ gb444 ∧ k_ ≠ gb451) ho0 (fun k_ hk_ => ⟨Or.elim hk_ (fun hs_ => ((Kd.R_types (Kd.R_types (Kd.R_types (Kd.R_types (Kd.R_types (Kd.R_types (HO448.out) BK423.out (by decide)) BK424.out (by decide)) BK425.out (by decide)) BK436.out (by decide)) BK444.out (by decide)) BK451.out (by decide)).1 k_ hs_.symm).1.1.1.1.1.1) (fun hn_ => (Kd.fresh' (Kd.R_lt (qR HO441.out)) k_ hn_)), Or.elim hk_ (fun hs_ => ((Kd.R_types (Kd.R_types (Kd.R_types (Kd.R_types (Kd.R_types (Kd.R_types (HO448.out) BK423.out (by decide)) BK424.out (by decide)) BK425.out (by decide)) BK436.out (by decide)) BK444.out (by decide)) BK451.out (by decide)).1 k_ hs_.symm).1.1.1.1.1.2) (fun hn_ => (Kd.freshB (g := gb423) (o := .cells #[.slice A0_0 l0_0.length c0_0, .slice A0_1 l0_1.length c0_1] 25 (0, 0)) (qB BK423) k_ hn_)), Or.elim hk_ (fun hs_ => ((Kd.R_types (Kd.R_types (Kd.R_types (Kd.R_types (Kd.R_types (Kd.R_types (HO448.out) BK423.out (by decide)) BK424.out (by decide)) BK425.out (by decide)) BK436.out (by decide)) BK444.out (by decide)) BK451.out (by decide)).1 k_ hs_.symm).1.1.1.1.2) (fun hn_ => (Kd.freshB (g := gb424) (o := .cells #[.int .i64 a1_0, .int .i64 a1_1] 27 (0, 0)) (qB BK424) k_ hn_)), Or.elim hk_ (fun hs_ => ((Kd.R_types (Kd.R_types (Kd.R_types (Kd.R_types (Kd.R_types (Kd.R_types (HO448.out) BK423.out (by decide)) BK424.out (by decide)) BK425.out (by decide)) BK436.out (by decide)) BK444.out (by decide)) BK451.out (by decide)).1 k_ hs_.symm).1.1.1.2) (fun hn_ => (Kd.freshB (g := gb425) (o := .cells #[.int .i64 a2_0, .string a2_1] 29 (0, 0)) (qB BK425) k_ hn_)), Or.elim hk_ (fun hs_ => ((Kd.R_types (Kd.R_types (Kd.R_types (Kd.R_types (Kd.R_types (Kd.R_types (HO448.out) BK423.out (by decide)) BK424.out (by decide)) BK425.out (by decide)) BK436.out (by decide)) BK444.out (by decide)) BK451.out (by decide)).1 k_ hs_.symm).1.1.2) (fun hn_ => (Kd.freshB (g := gb436) (o := .cells #[.slice Ao78 t429.length co78, .slice Ao83 t432.length co83] 25 (0, 0)) (qB BK436) k_ hn_)), Or.elim hk_ (fun hs_ => ((Kd.R_types (Kd.R_types (Kd.R_types (Kd.R_types (Kd.R_types (Kd.R_types (HO448.out) BK423.out (by decide)) BK424.out (by decide)) BK425.out (by decide)) BK436.out (by decide)) BK444.out (by decide)) BK451.out (by decide)).1 k_ hs_.symm).1.2) (fun hn_ => (Kd.freshB (g := gb444) (o := .cells #[.int .i64 t438, .slice Ao93 t439.length co93, .int .i64 t442] 37 (0, 0)) (qB BK444) k_ hn_)), Or.elim hk_ (fun hs_ => ((Kd.R_types (Kd.R_types (Kd.R_types (Kd.R_types (Kd.R_types (Kd.R_types (HO448.out) BK423.out (by decide)) BK424.out (by decide)) BK425.out (by decide)) BK436.out (by decide)) BK444.out (by decide)) BK451.out (by decide)).1 k_ hs_.symm).2) (fun hn_ => (Kd.freshB (g := gb451) (o := .cells #[.int .i64 t445, .slice Ao104 t446.length co104, .int .i64 t449] 37 (0, 0)) (qB BK451) k_ hn_))⟩)) (below_size qH))
        replace HO441 := Aside0.mk (Kd.R_below (qR HO441.out) hb)
        replace HO448 := Aside0.mk (Kd.R_below (qR HO448.out) hb)
        replace BK423 := wB BK423 hb
        replace BK424 := wB BK424 hb
        replace BK425 := wB BK425 hb
        replace BK436 := wB BK436 hb
        replace BK444 := wB BK444 hb
        replace BK451 := wB BK451 hb
        replace HB := wH hb
        (try clear hb)
        (try clear hb2)
        (try clear hk)
        (try clear hi)
        (try clear ho0)
        obtain ⟨Ao109, co109, eo109⟩ := Kd.V_slice HO455.out
        (first | subst eo109 | (injection eo109 with f1_ f2_ f3_; have f4_ := f1_.symm; have f5_ := f3_.symm; clear f1_ f2_ f3_; subst f4_; subst f5_))
        obtain ⟨Ao110, co110, eo110⟩ := Kd.V_slice HO460.out
        (first | subst eo110 | (injection eo110 with f1_ f2_ f3_; have f4_ := f1_.symm; have f5_ := f3_.symm; clear f1_ f2_ f3_; subst f4_; subst f5_))
        refine hK.out _ _ ⟨c0_ BK444, c1_ BK444, c2_ BK444, c0_ BK451, c1_ BK451, c2_ BK451, c0_ BK423, c1_ BK423, c0_ BK424, c1_ BK424, c0_ BK436, c1_ BK436⟩ (fun hHeld => ?_)
        clear hK K
        refine nS (some 73) ?_
        refine oN 4 (some 74) #[T_,T_,T_,T_,T_,F_,F_,F_,F_,F_,F_,F_,F_,F_,F_,F_,F_,F_,F_,F_,F_,F_,F_,F_,F_] HT_ (fun K hK => ?_)
        refine gO Try.func12 #[.agg #[.int .i64 t452, .slice Ao109 t453.length co109, .int .i64 t456], .agg #[.int .i64 t457, .slice Ao110 t458.length co110, .int .i64 t461]] ?_
        with_reducible refine (armadaref04_Same.calls kj3 t452 _ _ t453 t456 t457 _ _ t458 t461 true _ ?side1 ?side2 ?side3 ?side4 A64.out).mono ?_
        (case side1 => exact qK (Kd.V_reads' HO455.out).2.2)
        (case side2 => exact (Kd.V_reads' HO455.out).2.1)
        (case side3 => exact qK (Kd.V_reads' HO460.out).2.2)
        (case side4 => exact (Kd.V_reads' HO460.out).2.1)
        rintro e w111 ⟨rfl, hb⟩
        refine ⟨_, rfl, ?_⟩
        have hz_ := zqA HB hb
        replace hb := below_step hz_ hb
        replace HO431 := zV HO431 hb
        replace HO434 := zV HO434 hb
        replace HO441 := zR HO441 hb
        replace HO448 := zR HO448 hb
        replace BK423 := zB BK423 hb
        replace BK424 := zB BK424 hb
        replace BK425 := zB BK425 hb
        replace BK436 := zB BK436 hb
        replace BK444 := zB BK444 hb
        replace BK451 := zB BK451 hb
        replace HB := zH HB hb
        clear hz_
        (try clear hb)
        (try clear hb2)
        (try clear hk)
        (try clear hi)
        refine hK.out _ _ ⟨c0_ BK444, c1_ BK444, c2_ BK444, c0_ BK451, c1_ BK451, c2_ BK451, c0_ BK423, c1_ BK423, c0_ BK424, c1_ BK424, c0_ BK436, c1_ BK436⟩ (fun hHeld => ?_)
        clear hK K
        refine nS (some 74) ?_
        refine pU 5 (some 75) #[T_,T_,T_,T_,T_,T_,F_,F_,F_,F_,F_,F_,F_,F_,F_,F_,F_,F_,F_,F_,F_,F_,F_,F_,F_] HT_ ?_
        refine pU 6 (some 76) #[T_,T_,T_,T_,T_,T_,T_,F_,F_,F_,F_,F_,F_,F_,F_,F_,F_,F_,F_,F_,F_,F_,F_,F_,F_] HT_ ?_
        refine pU 7 (some 77) #[T_,T_,T_,T_,T_,T_,T_,T_,F_,F_,F_,F_,F_,F_,F_,F_,F_,F_,F_,F_,F_,F_,F_,F_,F_] HT_ ?_
        refine pU 8 (some 78) #[T_,T_,T_,T_,T_,T_,T_,T_,T_,F_,F_,F_,F_,F_,F_,F_,F_,F_,F_,F_,F_,F_,F_,F_,F_] HT_ ?_
        refine pU 9 (some 79) #[T_,T_,T_,T_,T_,T_,T_,T_,T_,T_,F_,F_,F_,F_,F_,F_,F_,F_,F_,F_,F_,F_,F_,F_,F_] HT_ ?_
        refine pU 10 (some 80) #[T_,T_,T_,T_,T_,T_,T_,T_,T_,T_,T_,F_,F_,F_,F_,F_,F_,F_,F_,F_,F_,F_,F_,F_,F_] HT_ ?_
        refine tK 11 (some 81) #[T_,T_,T_,T_,T_,T_,T_,T_,T_,T_,T_,T_,F_,F_,F_,F_,F_,F_,F_,F_,F_,F_,F_,F_,F_] HT_ HW_ hHeld ?_
        refine tK 12 (some 82) #[T_,T_,T_,T_,T_,T_,T_,T_,T_,T_,T_,T_,T_,F_,F_,F_,F_,F_,F_,F_,F_,F_,F_,F_,F_] HT_ HW_ hHeld ?_
        refine tK 13 (some 83) #[T_,T_,T_,T_,T_,T_,T_,T_,T_,T_,T_,T_,T_,T_,F_,F_,F_,F_,F_,F_,F_,F_,F_,F_,F_] HT_ HW_ hHeld ?_
        refine tK 15 (some 85) #[T_,T_,T_,T_,T_,T_,T_,T_,T_,T_,T_,T_,T_,T_,F_,T_,F_,F_,F_,F_,F_,F_,F_,F_,F_] HT_ HW_ hHeld ?_
        refine tK 16 (some 86) #[T_,T_,T_,T_,T_,T_,T_,T_,T_,T_,T_,T_,T_,T_,F_,T_,T_,F_,F_,F_,F_,F_,F_,F_,F_] HT_ HW_ hHeld ?_
        refine tK 17 (some 87) #[T_,T_,T_,T_,T_,T_,T_,T_,T_,T_,T_,T_,T_,T_,F_,T_,T_,T_,F_,F_,F_,F_,F_,F_,F_] HT_ HW_ hHeld ?_
        refine oN 14 (some 84) #[T_,T_,T_,T_,T_,T_,T_,T_,T_,T_,T_,T_,T_,T_,T_,T_,T_,T_,F_,F_,F_,F_,F_,F_,F_] HT_ (fun K hK => ?_)
        refine gO Try.func14 #[.agg #[.slice A0_0 l0_0.length c0_0, .slice A0_1 l0_1.length c0_1], .agg #[.int .i64 a1_0, .int .i64 a1_1], .agg #[.int .i64 t438, .slice Ao93 t439.length co93, .int .i64 t442]] ?_
        with_reducible refine (journal_Clean.calls kj3 _ _ l0_0 _ _ l0_1 a1_0 a1_1 t438 _ _ t439 t442 t463 _ ?side1 ?side2 ?side3 ?side4 ?side5 ?side6 A67.out).mono ?_
        (case side1 => exact qC HR0_0)
        (case side2 => exact HC0_0.out)
        (case side3 => exact qC HR0_1)
        (case side4 => exact HC0_1.out)
        (case side5 => exact qK (Kd.R_reads' HO441.out).2.2)
        (case side6 => exact (Kd.R_reads' HO441.out).2.1)
        rintro e w112 ⟨rfl, hb⟩
        refine ⟨_, rfl, ?_⟩
        have hz_ := zqA HB hb
        replace hb := below_step hz_ hb
        replace HO431 := zV HO431 hb
        replace HO434 := zV HO434 hb
        replace HO448 := zR HO448 hb
        replace BK423 := zB BK423 hb
        replace BK424 := zB BK424 hb
        replace BK425 := zB BK425 hb
        replace BK436 := zB BK436 hb
        replace BK444 := zB BK444 hb
        replace BK451 := zB BK451 hb
        replace HB := zH HB hb
        clear hz_
        (try clear hb)
        (try clear hb2)
        (try clear hk)
        (try clear hi)
        refine hK.out _ _ ⟨c0_ BK444, c1_ BK444, c2_ BK444, c0_ BK451, c1_ BK451, c2_ BK451, c0_ BK423, c1_ BK423, c0_ BK424, c1_ BK424, c0_ BK436, c1_ BK436⟩ (fun hHeld => ?_)
        clear hK K
        refine nS (some 84) ?_
        refine oN 18 (some 88) #[T_,T_,T_,T_,T_,T_,T_,T_,T_,T_,T_,T_,T_,T_,T_,T_,T_,T_,T_,F_,F_,F_,F_,F_,F_] HT_ (fun K hK => ?_)
        refine gO Try.func14 #[.agg #[.slice Ao78 t429.length co78, .slice Ao83 t432.length co83], .agg #[.int .i64 a1_0, .int .i64 a1_1], .agg #[.int .i64 t445, .slice Ao104 t446.length co104, .int .i64 t449]] ?_
        with_reducible refine (journal_Clean.calls kj3 _ _ t429 _ _ t432 a1_0 a1_1 t445 _ _ t446 t449 t464 _ ?side1 ?side2 ?side3 ?side4 ?side5 ?side6 A68.out).mono ?_
        (case side1 => exact qK (Kd.V_reads' HO431.out).2.2)
        (case side2 => exact (Kd.V_reads' HO431.out).2.1)
        (case side3 => exact qK (Kd.V_reads' HO434.out).2.2)
        (case side4 => exact (Kd.V_reads' HO434.out).2.1)
        (case side5 => exact qK (Kd.R_reads' HO448.out).2.2)
        (case side6 => exact (Kd.R_reads' HO448.out).2.1)
        rintro e w113 ⟨rfl, hb⟩
        refine ⟨_, rfl, ?_⟩
        have hz_ := zqA HB hb
        replace hb := below_step hz_ hb
        replace HO431 := zV HO431 hb
        replace HO434 := zV HO434 hb
        replace BK423 := zB BK423 hb
        replace BK424 := zB BK424 hb
        replace BK425 := zB BK425 hb
        replace BK436 := zB BK436 hb
        replace BK444 := zB BK444 hb
        replace BK451 := zB BK451 hb
        replace HB := zH HB hb
        clear hz_
        (try clear hb)
        (try clear hb2)
        (try clear hk)
        (try clear hi)
        refine hK.out _ _ ⟨c0_ BK444, c1_ BK444, c2_ BK444, c0_ BK451, c1_ BK451, c2_ BK451, c0_ BK423, c1_ BK423, c0_ BK424, c1_ BK424, c0_ BK436, c1_ BK436⟩ (fun hHeld => ?_)
        clear hK K
        refine nS (some 88) ?_
        refine pU 19 (some 89) #[T_,T_,T_,T_,T_,T_,T_,T_,T_,T_,T_,T_,T_,T_,T_,T_,T_,T_,T_,T_,F_,F_,F_,F_,F_] HT_ ?_
        refine pU 20 (some 90) #[T_,T_,T_,T_,T_,T_,T_,T_,T_,T_,T_,T_,T_,T_,T_,T_,T_,T_,T_,T_,T_,F_,F_,F_,F_] HT_ ?_
        refine pU 21 (some 91) #[T_,T_,T_,T_,T_,T_,T_,T_,T_,T_,T_,T_,T_,T_,T_,T_,T_,T_,T_,T_,T_,T_,F_,F_,F_] HT_ ?_
        refine oN 22 (some 92) #[T_,T_,T_,T_,T_,T_,T_,T_,T_,T_,T_,T_,T_,T_,T_,T_,T_,T_,T_,T_,T_,T_,T_,F_,F_] HT_ (fun K hK => ?_)
        refine gO Try.func9 #[] ?_
        with_reducible refine (armadalaw04_live.calls kj3  true _ A70.out).mono ?_
        rintro e w114 ⟨rfl, hb⟩
        refine ⟨_, rfl, ?_⟩
        have hz_ := zqA HB hb
        replace hb := below_step hz_ hb
        replace HO431 := zV HO431 hb
        replace HO434 := zV HO434 hb
        replace BK423 := zB BK423 hb
        replace BK424 := zB BK424 hb
        replace BK425 := zB BK425 hb
        replace BK436 := zB BK436 hb
        replace BK444 := zB BK444 hb
        replace BK451 := zB BK451 hb
        replace HB := zH HB hb
        clear hz_
        (try clear hb)
        (try clear hb2)
        (try clear hk)
        (try clear hi)
        refine hK.out _ _ ⟨c0_ BK444, c1_ BK444, c2_ BK444, c0_ BK451, c1_ BK451, c2_ BK451, c0_ BK423, c1_ BK423, c0_ BK424, c1_ BK424, c0_ BK436, c1_ BK436⟩ (fun hHeld => ?_)
        clear hK K
        refine nS (some 92) ?_
        refine pU 23 (some 93) #[T_,T_,T_,T_,T_,T_,T_,T_,T_,T_,T_,T_,T_,T_,T_,T_,T_,T_,T_,T_,T_,T_,T_,T_,F_] HT_ ?_
        refine pU 24 (some 6) #[T_,T_,T_,T_,T_,T_,T_,T_,T_,T_,T_,T_,T_,T_,T_,T_,T_,T_,T_,T_,T_,T_,T_,T_,T_] HT_ ?_
        refine done_ (done_of HT_.out (by kernel_rfl)) ?_
        try go_wp2
        go_ret
        exact ⟨eX, qH⟩
       ·rw [if_neg c69] at H
        have c69b0 : (t463 == t464) = false := by simpa using c69
        (try (have c69b1 : decide (t463 = t464) = false := by simpa using c69))
        (try (have c69b2 : (t463 == t464) = false := by simpa using c69))
        (try (have c69b3 : ¬ (t463 = t464) := by simpa using c69))
        clear c69
        exact absurd H (by simp)
      ·rw [if_neg c66] at H
       have c66b0 : (t443 == t450) = false := beq_eq_false_iff_ne.mpr c66
       have c66b1 : (t443 != t450) = true := bne_iff_ne.mpr c66
       exact absurd H (by simp)
     ·replace c65 := Bool.eq_false_iff.mpr c65
      subst c65
      rw [if_neg nF_] at H
      exact absurd H (by simp)
    ·rw [if_neg c59] at H
     have c59b0 : (t435 == 0) = false := beq_eq_false_iff_ne.mpr c59
     have c59b1 : (t435 != 0) = true := bne_iff_ne.mpr c59
     replace H := Option.bind_eq_some_iff.mp H
     obtain ⟨t437, A1150, H⟩ := H
     try dsimp only at H
     have A115 := Aside0.mk A1150
     clear A1150
     obtain rfl := Option.some.inj H
     obtain ⟨hnb116, hnc116⟩ := nn_ NB423_424
     obtain ⟨hnb117, hnc117⟩ := nn_ NB423_425
     obtain ⟨hcz118_0, hcz118_1, hfz118_0, hfz118_1⟩ := e2_ BK423
     obtain ⟨hnb119, hnc119⟩ := nn_ NB425_424
     obtain ⟨hcz120_0, hcz120_1, hfz120_0, hfz120_1⟩ := e2_ BK425
     go_wp2_with (first | ((with_reducible refine gate_callee (f := 10) rfl ?_); refine gL (some 52) Try.func10 #[.agg #[.slice A0_0 l0_0.length c0_0, .slice A0_1 l0_1.length c0_1], .int .i64 a2_0, .string a2_1] ?_; (with_reducible refine (disk_Put.calls kj3 (fun k_ => k_ < w.heap.size) _ _ l0_0 (fun k_ => k_ < w.heap.size) _ _ l0_1 a2_0 a2_1 t429 t432 t435 _ ?side1 ?side2 A58.out).mono ?_); (case side1 => exact Kd.V_mk HC0_0.out (Kd.F_below (Kd.C_F Kd.heap_string HR0_0.out) qH)); (case side2 => exact Kd.V_mk HC0_1.out (Kd.F_below (Kd.C_F k29_heap HR0_1.out) qH)); rintro e w121 ⟨v430, v433, rfl, ho0, ho1, hb⟩; refine ⟨_, rfl, ?_⟩; have hz_ := zqA HB hb; replace hb := below_step hz_ hb; have HO431 := Aside0.mk (Kd.V_lower (Kd.V_mono (ok' := fun k_ => k_ ≠ gb423 ∧ k_ ≠ gb424 ∧ k_ ≠ gb425) ho0 (fun k_ hk_ => ⟨Or.elim hk_ (fun hs_ => Or.elim hs_ (zg GW423) (zg GW423)) (zf BK423 hz_ k_), Or.elim hk_ (fun hs_ => Or.elim hs_ (zg GW424) (zg GW424)) (zf BK424 hz_ k_), Or.elim hk_ (fun hs_ => Or.elim hs_ (zg GW425) (zg GW425)) (zf BK425 hz_ k_)⟩)) (zs HB hz_)); have HO434 := Aside0.mk (Kd.V_lower (Kd.V_mono (ok' := fun k_ => k_ ≠ gb423 ∧ k_ ≠ gb424 ∧ k_ ≠ gb425) ho1 (fun k_ hk_ => ⟨Or.elim hk_ (fun hs_ => Or.elim hs_ (zg GW423) (zg GW423)) (zf BK423 hz_ k_), Or.elim hk_ (fun hs_ => Or.elim hs_ (zg GW424) (zg GW424)) (zf BK424 hz_ k_), Or.elim hk_ (fun hs_ => Or.elim hs_ (zg GW425) (zg GW425)) (zf BK425 hz_ k_)⟩)) (zs HB hz_)); replace BK423 := zB BK423 hb; replace BK424 := zB BK424 hb; replace BK425 := zB BK425 hb; replace HB := zH HB hb; clear hz_; (try clear hb); (try clear ho0); (try clear ho1)) | ((with_reducible refine gate_dst (N := 7) rfl ?_); (try (refine gate_guard (by rfl) ?_; dsimp only)); refine bE (N := 7) (cs := #[.slice none 0 0, .slice none 0 0]) (t := 25) ?_; intro gb436 hg w122 hbox hb; have hz_ := zqA HB hb; replace hb := below_step hz_ hb; replace HO431 := zE HO431 hz_ hg hb; replace HO434 := zE HO434 hz_ hg hb; have BK436 := Aside0.mk hbox; have GE436 := zG HB hz_ hg; have NB423_436 := zN BK423 hz_ hg; have NB436_423 := zM BK423 hz_ hg; have NB424_436 := zN BK424 hz_ hg; have NB436_424 := zM BK424 hz_ hg; have NB425_436 := zN BK425 hz_ hg; have NB436_425 := zM BK425 hz_ hg; replace BK423 := zB BK423 hb; replace BK424 := zB BK424 hb; replace BK425 := zB BK425 hb; replace HB := zH HB hb; clear hz_; clear hb hbox hg; obtain ⟨Ao123, co123, eo123⟩ := Kd.V_slice HO431.out; subst eo123; obtain ⟨hnb124, hnc124⟩ := nn_ NB436_423; obtain ⟨hnb125, hnc125⟩ := nn_ NB436_424; obtain ⟨hnb126, hnc126⟩ := nn_ NB436_425; obtain ⟨hcz127_0, hcz127_1, hfz127_0, hfz127_1⟩ := e2_ BK436; obtain ⟨Ao128, co128, eo128⟩ := Kd.V_slice HO434.out; subst eo128) | ((with_reducible refine gate_callee (f := 9) rfl ?_); refine gL (some 57) Try.func9 #[] ?_; (with_reducible refine (armadalaw04_live.calls kj3  true _ A115.out).mono ?_); rintro e w129 ⟨rfl, hb⟩; refine ⟨_, rfl, ?_⟩; have hz_ := zq2 HB gb436 (.slice Ao123 t429.length co123) (.slice Ao128 t432.length co128) (by repeat (first | (with_reducible first | exact Below.refl _ _ | apply yA_ | apply yN_ | apply yD_) | exact Below.refl _ _)) hb; replace hb := below_step hz_ hb; replace BK423 := zBF BK423 NB423_436 hb; replace BK424 := zBF BK424 NB424_436 hb; replace BK425 := zBF BK425 NB425_436 hb; replace BK436 := zBP BK436 hb; replace HB := zHF HB GE436 hb; clear hz_; (try clear hb)))
     go_ret
     exact ⟨eX, qH⟩
end Go.Proofs.Ythoddglnfdmdeaa.P
