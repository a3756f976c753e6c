/- Printed functions, merged. -/
import Derived.Test.YthoddglnfdmdeaaZJSM0
import Derived.Test.YthoddglnfdmdeaaZJSM6
import Derived.Test.YthoddglnfdmdeaaZJSH7
import Derived.Test.YthoddglnfdmdeaaZJSH6
import Derived.Test.YthoddglnfdmdeaaZJSH3
import Derived.Test.YthoddglnfdmdeaaZJSM2
import Derived.Test.YthoddglnfdmdeaaZJSAl
namespace Go.Proofs.Ythoddglnfdmdeaa.P
open Go.RowKit Go.Proofs.YthoddglnfdmdeaaW.PrintWords Go.Proofs.YthoddglnfdmdeaaW.PrintLast Go.Proofs.YthoddglnfdmdeaaW.PrintMore
attribute [local go_sem] max2_int min2_int max_two min_two max_three min_three max_four min_four   -- for this text's walks alone
set_option linter.unusedVariables false
set_option linter.unusedSimpArgs false
mutual
def journal_place_record.j0 : Nat → Int → Int → Bool → Int → Int → List ByteArray → List (S29) → Int → Int → Int → Int → Int → Option (ByteArray × Int × Bool)
 | 0, _, _, _, _, _, _, _, _, _, _, _, _ => none
 | k + 1, x1, x13, x57, x188000, x188001, x188002, x188003, x195000, x195001, x195002, x195003, x195004 => if x57 = true then (some ((⟨#[]⟩ : ByteArray), 0, false)) else (journal_place_record.l0 k x13 ([] : List ByteArray) (wrap64 (x1 + 1)) x188000 x188001 x188002 x188003 x195000 x195001 x195002 x195003 x195004)
def journal_place_record.l0 : Nat → Int → List ByteArray → Int → Int → Int → List ByteArray → List (S29) → Int → Int → Int → Int → Int → Option (ByteArray × Int × Bool)
 | 0, _, _, _, _, _, _, _, _, _, _, _, _ => none
 | k + 1, x13, x14, x15, x188000, x188001, x188002, x188003, x195000, x195001, x195002, x195003, x195004 => if x15 < x13 then ((disk_Get.f x188002 x188003 x15).bind fun bt197 => (if x14.length < 8796093022208 then (journal_place_record.l0 k x13 (x14 ++ [bt197.1]) (wrap64 (x15 + 1)) x188000 x188001 x188002 x188003 x195000 x195001 x195002 x195003 x195004) else (none))) else ((rec_Join.f k x14 x195003).bind fun bt202 => (if bt202.2 = true then ((sum_Of.f k bt202.1).bind fun t204 => (some (bt202.1, x13, (t204 == x195004)))) else (some (bt202.1, x13, false))))
end
def journal_place_record.f (k : Nat) (a0_0 : Int) (a0_1 : Int) (l0_2 : List ByteArray) (l0_3 : List (S29)) (a1 : Int) (a2 : Int) (a3 : Int) : Option (ByteArray × Int × Bool) := (journal_place_head.f k a0_0 a0_1 l0_2 l0_3 a1).bind fun bt188 => ((rec_Count.f bt188.2.2.2.1).bind fun t195 => (if bt188.2.2.2.2.2 = true then (if bt188.1 = 2 then (if bt188.2.1 = a2 then (if bt188.2.2.1 = a3 then ((journal_Region_end.f a0_0 a0_1).bind fun t196 => (journal_place_record.j0 k a1 (wrap64 ((wrap64 (a1 + 1)) + t195)) (decide ((wrap64 ((wrap64 (a1 + 1)) + t195)) > t196)) a0_0 a0_1 l0_2 l0_3 bt188.1 bt188.2.1 bt188.2.2.1 bt188.2.2.2.1 bt188.2.2.2.2.1)) else (journal_place_record.j0 k a1 (wrap64 ((wrap64 (a1 + 1)) + t195)) true a0_0 a0_1 l0_2 l0_3 bt188.1 bt188.2.1 bt188.2.2.1 bt188.2.2.2.1 bt188.2.2.2.2.1)) else (journal_place_record.j0 k a1 (wrap64 ((wrap64 (a1 + 1)) + t195)) true a0_0 a0_1 l0_2 l0_3 bt188.1 bt188.2.1 bt188.2.2.1 bt188.2.2.2.1 bt188.2.2.2.2.1)) else (journal_place_record.j0 k a1 (wrap64 ((wrap64 (a1 + 1)) + t195)) true a0_0 a0_1 l0_2 l0_3 bt188.1 bt188.2.1 bt188.2.2.1 bt188.2.2.2.1 bt188.2.2.2.2.1)) else (journal_place_record.j0 k a1 (wrap64 ((wrap64 (a1 + 1)) + t195)) true a0_0 a0_1 l0_2 l0_3 bt188.1 bt188.2.1 bt188.2.2.1 bt188.2.2.2.1 bt188.2.2.2.2.1)))
theorem journal_place_record.mono_l : ∀ k, (∀ y0 y1 y2 y3 y4 y5 y6 y7 y8 y9 y10 y11, LeO (journal_place_record.j0 k y0 y1 y2 y3 y4 y5 y6 y7 y8 y9 y10 y11) (journal_place_record.j0 (k + 1) y0 y1 y2 y3 y4 y5 y6 y7 y8 y9 y10 y11)) ∧ (∀ y0 y1 y2 y3 y4 y5 y6 y7 y8 y9 y10 y11, LeO (journal_place_record.l0 k y0 y1 y2 y3 y4 y5 y6 y7 y8 y9 y10 y11) (journal_place_record.l0 (k + 1) y0 y1 y2 y3 y4 y5 y6 y7 y8 y9 y10 y11))
 | 0 => ⟨fun _ _ _ _ _ _ _ _ _ _ _ _ r h => by simp [journal_place_record.j0] at h, fun _ _ _ _ _ _ _ _ _ _ _ _ r h => by simp [journal_place_record.l0] at h⟩
 | k + 1 => by
  obtain ⟨ih0, ih1⟩ := journal_place_record.mono_l k
  refine ⟨?_, ?_⟩
  ·intro y0 y1 y2 y3 y4 y5 y6 y7 y8 y9 y10 y11
   unfold journal_place_record.j0
   repeat' first
   | (with_reducible exact ih0 _ _ _ _ _ _ _ _ _ _ _ _)
   | (with_reducible exact ih1 _ _ _ _ _ _ _ _ _ _ _ _)
   | (with_reducible exact journal_place_head.mono _ _ _ _ _ _)
   | (with_reducible exact rec_Join.mono _ _ _)
   | (with_reducible exact sum_Of.mono _ _)
   | (with_reducible exact LeO.refl _)
   | (with_reducible exact LeO.none _)
   | (with_reducible refine LeO.ite ?_ ?_)
   | (with_reducible refine LeO.bind ?_ (fun _ => ?_))
   | exact ih0 _ _ _ _ _ _ _ _ _ _ _ _
   | exact ih1 _ _ _ _ _ _ _ _ _ _ _ _
   | exact journal_place_head.mono _ _ _ _ _ _
   | exact rec_Join.mono _ _ _
   | exact sum_Of.mono _ _
   | exact LeO.none _
   | refine LeO.ite ?_ ?_
   | refine LeO.bind ?_ (fun _ => ?_)
  ·intro y0 y1 y2 y3 y4 y5 y6 y7 y8 y9 y10 y11
   unfold journal_place_record.l0
   repeat' first
   | (with_reducible exact ih0 _ _ _ _ _ _ _ _ _ _ _ _)
   | (with_reducible exact ih1 _ _ _ _ _ _ _ _ _ _ _ _)
   | (with_reducible exact journal_place_head.mono _ _ _ _ _ _)
   | (with_reducible exact rec_Join.mono _ _ _)
   | (with_reducible exact sum_Of.mono _ _)
   | (with_reducible exact LeO.refl _)
   | (with_reducible exact LeO.none _)
   | (with_reducible refine LeO.ite ?_ ?_)
   | (with_reducible refine LeO.bind ?_ (fun _ => ?_))
   | exact ih0 _ _ _ _ _ _ _ _ _ _ _ _
   | exact ih1 _ _ _ _ _ _ _ _ _ _ _ _
   | exact journal_place_head.mono _ _ _ _ _ _
   | exact rec_Join.mono _ _ _
   | exact sum_Of.mono _ _
   | exact LeO.none _
   | refine LeO.ite ?_ ?_
   | refine LeO.bind ?_ (fun _ => ?_)
theorem journal_place_record.mono : ∀ a0 a1 a2 a3 a4 a5 a6 k, LeO (journal_place_record.f k a0 a1 a2 a3 a4 a5 a6) (journal_place_record.f (k + 1) a0 a1 a2 a3 a4 a5 a6) := by
 intro a0 a1 a2 a3 a4 a5 a6 k
 obtain ⟨ih0, ih1⟩ := journal_place_record.mono_l k
 unfold journal_place_record.f
 repeat' first
   | (with_reducible exact ih0 _ _ _ _ _ _ _ _ _ _ _ _)
   | (with_reducible exact ih1 _ _ _ _ _ _ _ _ _ _ _ _)
   | (with_reducible exact journal_place_head.mono _ _ _ _ _ _)
   | (with_reducible exact rec_Join.mono _ _ _)
   | (with_reducible exact sum_Of.mono _ _)
   | (with_reducible exact LeO.refl _)
   | (with_reducible exact LeO.none _)
   | (with_reducible refine LeO.ite ?_ ?_)
   | (with_reducible refine LeO.bind ?_ (fun _ => ?_))
   | exact ih0 _ _ _ _ _ _ _ _ _ _ _ _
   | exact ih1 _ _ _ _ _ _ _ _ _ _ _ _
   | exact journal_place_head.mono _ _ _ _ _ _
   | exact rec_Join.mono _ _ _
   | exact sum_Of.mono _ _
   | exact LeO.none _
   | refine LeO.ite ?_ ?_
   | refine LeO.bind ?_ (fun _ => ?_)
set_option maxHeartbeats 8000000 in
set_option maxRecDepth 100000 in
theorem journal_place_record.calls (k : Nat) (a0_0 : Int) (a0_1 : Int) (A0_2 : Option Addr) (c0_2 : Nat) (l0_2 : List ByteArray) (A0_3 : Option Addr) (c0_3 : Nat) (l0_3 : List (S29)) (a1 : Int) (a2 : Int) (a3 : Int) (r1 : ByteArray) (r2 : Int) (r3 : Bool) (w : World) (hr0_2 : Kd.C Kd.string w A0_2 l0_2.length l0_2) (hc0_2 : l0_2.length ≤ c0_2) (hr0_3 : Kd.C k29 w A0_3 l0_3.length l0_3) (hc0_3 : l0_3.length ≤ c0_3) (h : journal_place_record.f k a0_0 a0_1 l0_2 l0_3 a1 a2 a3 = some (r1, r2, r3)) :
  Calls Try.prog 36 #[.agg #[.int .i64 a0_0, .int .i64 a0_1, .slice A0_2 l0_2.length c0_2, .slice A0_3 l0_3.length c0_3], .int .i64 a1, .int .i64 a2, .int .i64 a3] w fun e w' => e = .returned (.tuple #[.string r1, .int .i64 r2, .bool r3]) ∧ Below w.heap.size w w' := by
 have hu72 := Try.underlying72
 have hu73 := Try.underlying73
 have hu40 := Try.underlying40
 have hu25 := Try.underlying25
 have HR0_2 := Aside0.mk hr0_2
 have HC0_2 := Aside0.mk hc0_2
 clear hr0_2 hc0_2
 have HR0_3 := Aside0.mk hr0_3
 have HC0_3 := Aside0.mk hc0_3
 clear hr0_3 hc0_3
 have HB := Aside0.mk (Below.refl w.heap.size w)
 have H := h
 unfold journal_place_record.f at H
 clear h
 replace H := Option.bind_eq_some_iff.mp H
 obtain ⟨⟨t188, t189, t190, t191, t192, t193⟩, A50, H⟩ := H
 try dsimp only at H
 have A5 := Aside0.mk A50
 clear A50
 replace H := Option.bind_eq_some_iff.mp H
 obtain ⟨t195, A60, H⟩ := H
 try dsimp only at H
 have A6 := Aside0.mk A60
 clear A60
 have HC7 := Aside0.mk H
 clear H
 go_enter Try.func36, Try.ntmps36
 go_upto_region 3 with (first | ((with_reducible refine gate_dst (N := 4) rfl ?_); refine bE (N := 4) (cs := #[.int .i64 a0_0, .int .i64 a0_1, .slice A0_2 l0_2.length c0_2, .slice A0_3 l0_3.length c0_3]) (t := 72) ?_; intro gb187 hg w8 hbox hb; have n0_ := wH hb; have n1_ := Aside0.mk (hbox); have n2_ := Aside0.mk ((qG hg)); have n3_ := Aside0.mk ((qG hg)); clear HB; have HB := n0_; have BK187 := n1_; have GE187 := n3_; clear n0_ n1_ n2_ n3_; clear hb hbox hg; obtain ⟨hcz9_0, hcz9_1, hcz9_2, hcz9_3, hfz9_0, hfz9_1, hfz9_2, hfz9_3⟩ := e4_ BK187) | (go_at_call 33; (with_reducible refine (journal_place_head.calls k a0_0 a0_1 _ _ l0_2 _ _ l0_3 a1 t188 t189 t190 t191 t192 t193 _ ?side1 ?side2 ?side3 ?side4 A5.out).mono ?_); (case side1 => exact qC HR0_2); (case side2 => exact HC0_2.out); (case side3 => exact qC HR0_3); (case side4 => exact HC0_3.out); rintro e w10 ⟨rfl, hb⟩; have n0_ := wB BK187 hb; have n1_ := wH hb; clear BK187; clear HB; have BK187 := n0_; have HB := n1_; clear n0_ n1_; (try clear hb); (try clear hb2); (try clear hk); (try clear hi)) | ((with_reducible refine gate_dst (N := 11) rfl ?_); refine bE (N := 11) (cs := #[.int .i64 0, .int .i64 0, .int .i64 0, .int .i64 0, .int .i64 0]) (t := 73) ?_; intro gb194 hg w11 hbox hb; have n0_ := wB BK187 hb; have n1_ := wH hb; have n2_ := Aside0.mk (hbox); have n3_ := Aside0.mk ((qG hg)); have n4_ := Aside0.mk ((qG hg)); have n5_ := Aside0.mk ((by rw [hg]; exact Nat.ne_of_lt (blk_lt (g := gb187) (o := .cells #[.int .i64 a0_0, .int .i64 a0_1, .slice A0_2 l0_2.length c0_2, .slice A0_3 l0_3.length c0_3] 72 (0, 0)) (qB BK187)) : gb187 ≠ gb194)); have n6_ := Aside0.mk ((by rw [hg]; exact Nat.ne_of_gt (blk_lt (g := gb187) (o := .cells #[.int .i64 a0_0, .int .i64 a0_1, .slice A0_2 l0_2.length c0_2, .slice A0_3 l0_3.length c0_3] 72 (0, 0)) (qB BK187)) : gb194 ≠ gb187)); clear BK187; clear HB; have BK187 := n0_; have HB := n1_; have BK194 := n2_; have GE194 := n4_; have NB187_194 := n5_; have NB194_187 := n6_; clear n0_ n1_ n2_ n3_ n4_ n5_ n6_; clear hb hbox hg; obtain ⟨hnb12, hnc12⟩ := nn_ NB194_187; obtain ⟨hcz13_0, hcz13_1, hcz13_2, hcz13_3, hcz13_4, hfz13_0, hfz13_1, hfz13_2, hfz13_3, hfz13_4⟩ := e5_ BK194) | (go_at_call 43; (with_reducible refine (rec_Count.calls t191 t195 _ A6.out).mono ?_); rintro e w' ⟨rfl, ⟨nd, rfl⟩⟩; (try first | exact ⟨rfl, _, World.drewN_drewN _ _ _⟩ | exact ⟨rfl, _, Eq.trans (World.drewN_drewN _ _ _) (congrArg (World.drewN _) (Nat.add_assoc _ _ _))⟩)))
 repeat (go_quiet (first | ((with_reducible refine gate_dst (N := 4) rfl ?_); refine bE (N := 4) (cs := #[.int .i64 a0_0, .int .i64 a0_1, .slice A0_2 l0_2.length c0_2, .slice A0_3 l0_3.length c0_3]) (t := 72) ?_; intro gb187 hg w8 hbox hb; have n0_ := wH hb; have n1_ := Aside0.mk (hbox); have n2_ := Aside0.mk ((qG hg)); have n3_ := Aside0.mk ((qG hg)); clear HB; have HB := n0_; have BK187 := n1_; have GE187 := n3_; clear n0_ n1_ n2_ n3_; clear hb hbox hg; obtain ⟨hcz9_0, hcz9_1, hcz9_2, hcz9_3, hfz9_0, hfz9_1, hfz9_2, hfz9_3⟩ := e4_ BK187) | (go_at_call 33; (with_reducible refine (journal_place_head.calls k a0_0 a0_1 _ _ l0_2 _ _ l0_3 a1 t188 t189 t190 t191 t192 t193 _ ?side1 ?side2 ?side3 ?side4 A5.out).mono ?_); (case side1 => exact qC HR0_2); (case side2 => exact HC0_2.out); (case side3 => exact qC HR0_3); (case side4 => exact HC0_3.out); rintro e w10 ⟨rfl, hb⟩; have n0_ := wB BK187 hb; have n1_ := wH hb; clear BK187; clear HB; have BK187 := n0_; have HB := n1_; clear n0_ n1_; (try clear hb); (try clear hb2); (try clear hk); (try clear hi)) | ((with_reducible refine gate_dst (N := 11) rfl ?_); refine bE (N := 11) (cs := #[.int .i64 0, .int .i64 0, .int .i64 0, .int .i64 0, .int .i64 0]) (t := 73) ?_; intro gb194 hg w11 hbox hb; have n0_ := wB BK187 hb; have n1_ := wH hb; have n2_ := Aside0.mk (hbox); have n3_ := Aside0.mk ((qG hg)); have n4_ := Aside0.mk ((qG hg)); have n5_ := Aside0.mk ((by rw [hg]; exact Nat.ne_of_lt (blk_lt (g := gb187) (o := .cells #[.int .i64 a0_0, .int .i64 a0_1, .slice A0_2 l0_2.length c0_2, .slice A0_3 l0_3.length c0_3] 72 (0, 0)) (qB BK187)) : gb187 ≠ gb194)); have n6_ := Aside0.mk ((by rw [hg]; exact Nat.ne_of_gt (blk_lt (g := gb187) (o := .cells #[.int .i64 a0_0, .int .i64 a0_1, .slice A0_2 l0_2.length c0_2, .slice A0_3 l0_3.length c0_3] 72 (0, 0)) (qB BK187)) : gb194 ≠ gb187)); clear BK187; clear HB; have BK187 := n0_; have HB := n1_; have BK194 := n2_; have GE194 := n4_; have NB187_194 := n5_; have NB194_187 := n6_; clear n0_ n1_ n2_ n3_ n4_ n5_ n6_; clear hb hbox hg; obtain ⟨hnb12, hnc12⟩ := nn_ NB194_187; obtain ⟨hcz13_0, hcz13_1, hcz13_2, hcz13_3, hcz13_4, hfz13_0, hfz13_1, hfz13_2, hfz13_3, hfz13_4⟩ := e5_ BK194) | (go_at_call 43; (with_reducible refine (rec_Count.calls t191 t195 _ A6.out).mono ?_); rintro e w' ⟨rfl, ⟨nd, rfl⟩⟩; (try first | exact ⟨rfl, _, World.drewN_drewN _ _ _⟩ | exact ⟨rfl, _, Eq.trans (World.drewN_drewN _ _ _) (congrArg (World.drewN _) (Nat.add_assoc _ _ _))⟩))); go_upto_region 3 with (first | ((with_reducible refine gate_dst (N := 4) rfl ?_); refine bE (N := 4) (cs := #[.int .i64 a0_0, .int .i64 a0_1, .slice A0_2 l0_2.length c0_2, .slice A0_3 l0_3.length c0_3]) (t := 72) ?_; intro gb187 hg w8 hbox hb; have n0_ := wH hb; have n1_ := Aside0.mk (hbox); have n2_ := Aside0.mk ((qG hg)); have n3_ := Aside0.mk ((qG hg)); clear HB; have HB := n0_; have BK187 := n1_; have GE187 := n3_; clear n0_ n1_ n2_ n3_; clear hb hbox hg; obtain ⟨hcz9_0, hcz9_1, hcz9_2, hcz9_3, hfz9_0, hfz9_1, hfz9_2, hfz9_3⟩ := e4_ BK187) | (go_at_call 33; (with_reducible refine (journal_place_head.calls k a0_0 a0_1 _ _ l0_2 _ _ l0_3 a1 t188 t189 t190 t191 t192 t193 _ ?side1 ?side2 ?side3 ?side4 A5.out).mono ?_); (case side1 => exact qC HR0_2); (case side2 => exact HC0_2.out); (case side3 => exact qC HR0_3); (case side4 => exact HC0_3.out); rintro e w10 ⟨rfl, hb⟩; have n0_ := wB BK187 hb; have n1_ := wH hb; clear BK187; clear HB; have BK187 := n0_; have HB := n1_; clear n0_ n1_; (try clear hb); (try clear hb2); (try clear hk); (try clear hi)) | ((with_reducible refine gate_dst (N := 11) rfl ?_); refine bE (N := 11) (cs := #[.int .i64 0, .int .i64 0, .int .i64 0, .int .i64 0, .int .i64 0]) (t := 73) ?_; intro gb194 hg w11 hbox hb; have n0_ := wB BK187 hb; have n1_ := wH hb; have n2_ := Aside0.mk (hbox); have n3_ := Aside0.mk ((qG hg)); have n4_ := Aside0.mk ((qG hg)); have n5_ := Aside0.mk ((by rw [hg]; exact Nat.ne_of_lt (blk_lt (g := gb187) (o := .cells #[.int .i64 a0_0, .int .i64 a0_1, .slice A0_2 l0_2.length c0_2, .slice A0_3 l0_3.length c0_3] 72 (0, 0)) (qB BK187)) : gb187 ≠ gb194)); have n6_ := Aside0.mk ((by rw [hg]; exact Nat.ne_of_gt (blk_lt (g := gb187) (o := .cells #[.int .i64 a0_0, .int .i64 a0_1, .slice A0_2 l0_2.length c0_2, .slice A0_3 l0_3.length c0_3] 72 (0, 0)) (qB BK187)) : gb194 ≠ gb187)); clear BK187; clear HB; have BK187 := n0_; have HB := n1_; have BK194 := n2_; have GE194 := n4_; have NB187_194 := n5_; have NB194_187 := n6_; clear n0_ n1_ n2_ n3_ n4_ n5_ n6_; clear hb hbox hg; obtain ⟨hnb12, hnc12⟩ := nn_ NB194_187; obtain ⟨hcz13_0, hcz13_1, hcz13_2, hcz13_3, hcz13_4, hfz13_0, hfz13_1, hfz13_2, hfz13_3, hfz13_4⟩ := e5_ BK194) | (go_at_call 43; (with_reducible refine (rec_Count.calls t191 t195 _ A6.out).mono ?_); rintro e w' ⟨rfl, ⟨nd, rfl⟩⟩; (try first | exact ⟨rfl, _, World.drewN_drewN _ _ _⟩ | exact ⟨rfl, _, Eq.trans (World.drewN_drewN _ _ _) (congrArg (World.drewN _) (Nat.add_assoc _ _ _))⟩))))
 (try simp only [Act.put, List.setIfInBounds_toArray, List.set_cons_zero, List.set_cons_succ])
 go_cut [57] (fun v57 wc => ∃ (kq : Nat) (x57_6 : Bool), v57 = .bool x57_6 ∧ Aside0 (journal_place_record.j0 kq a1 (wrap64 ((wrap64 (a1 + 1)) + t195)) x57_6 a0_0 a0_1 l0_2 l0_3 t188 t189 t190 t191 t192 = some (r1, r2, r3)) ∧ Aside0 (kq ≤ k) ∧ Aside0 (wc.heap[gb187]? = some (.cells #[.int .i64 a0_0, .int .i64 a0_1, (.slice A0_2 l0_2.length c0_2), (.slice A0_3 l0_3.length c0_3)] 72 (0, 0))) ∧ Aside0 (wc.heap[gb194]? = some (.cells #[.int .i64 t188, .int .i64 t189, .int .i64 t190, .int .i64 t191, .int .i64 t192] 73 (0, 0))) ∧ Aside0 (Below w.heap.size w wc))
 case first =>
  have H := HC7.out
  clear HC7
  by_cases c14 : t193 = true
  ·subst c14
   rw [if_pos rfl] at H
   by_cases c15 : t188 = 2
   ·rw [if_pos c15] at H
    have c15b0 : (t188 == 2) = true := beq_iff_eq.mpr c15
    have c15b1 : (t188 != 2) = false := bne_eq_false_iff_eq.mpr c15
    clear c15
    (first | rw [c15b0] | (simp only [i64_w, i32_w]; rw [c15b0]) | skip)
    by_cases c16 : t189 = a2
    ·rw [if_pos c16] at H
     have c16b0 : (t189 == a2) = true := beq_iff_eq.mpr c16
     have c16b1 : (t189 != a2) = false := bne_eq_false_iff_eq.mpr c16
     clear c16
     by_cases c17 : t190 = a3
     ·rw [if_pos c17] at H
      have c17b0 : (t190 == a3) = true := beq_iff_eq.mpr c17
      have c17b1 : (t190 != a3) = false := bne_eq_false_iff_eq.mpr c17
      clear c17
      replace H := Option.bind_eq_some_iff.mp H
      obtain ⟨t196, A180, H⟩ := H
      try dsimp only at H
      have A18 := Aside0.mk A180
      clear A180
      have H' := Aside0.mk H
      clear H
      obtain ⟨hnb19, hnc19⟩ := nn_ NB194_187
      obtain ⟨hcz20_0, hcz20_1, hcz20_2, hcz20_3, hcz20_4, hfz20_0, hfz20_1, hfz20_2, hfz20_3, hfz20_4⟩ := e5_ BK194
      obtain ⟨hcz21_0, hcz21_1, hcz21_2, hcz21_3, hfz21_0, hfz21_1, hfz21_2, hfz21_3⟩ := e4_ BK187
      go_wp2_with (first | (go_at_call 35; (with_reducible refine (journal_Region_end.calls a0_0 a0_1 t196 _ A18.out).mono ?_); rintro e w22 ⟨rfl, hb⟩; have n0_ := wF BK187 hb; have n1_ := wP5 BK194 hb; have n2_ := wH hb; clear BK187; clear BK194; clear HB; have BK187 := n0_; have BK194 := n1_; have HB := n2_; clear n0_ n1_ n2_; (try clear hb); (try clear hb2); (try clear hk); (try clear hi)))
      repeat (go_quiet (first | (go_at_call 35; (with_reducible refine (journal_Region_end.calls a0_0 a0_1 t196 _ A18.out).mono ?_); rintro e w22 ⟨rfl, hb⟩; have n0_ := wF BK187 hb; have n1_ := wP5 BK194 hb; have n2_ := wH hb; clear BK187; clear BK194; clear HB; have BK187 := n0_; have BK194 := n1_; have HB := n2_; clear n0_ n1_ n2_; (try clear hb); (try clear hb2); (try clear hk); (try clear hi))); try go_wp2_with (first | (go_at_call 35; (with_reducible refine (journal_Region_end.calls a0_0 a0_1 t196 _ A18.out).mono ?_); rintro e w22 ⟨rfl, hb⟩; have n0_ := wF BK187 hb; have n1_ := wP5 BK194 hb; have n2_ := wH hb; clear BK187; clear BK194; clear HB; have BK187 := n0_; have BK194 := n1_; have HB := n2_; clear n0_ n1_ n2_; (try clear hb); (try clear hb2); (try clear hk); (try clear hi))))
      go_meet
      case rel => exact ⟨_, (decide ((wrap64 ((wrap64 (a1 + 1)) + t195)) > t196)), eY, H', ⟨by first | omega | exact Nat.le_refl _⟩, ⟨qB BK187⟩, ⟨qB BK194⟩, ⟨qH⟩⟩
     ·rw [if_neg c17] at H
      have c17b0 : (t190 == a3) = false := beq_eq_false_iff_ne.mpr c17
      have c17b1 : (t190 != a3) = true := bne_iff_ne.mpr c17
      have H' := Aside0.mk H
      clear H
      obtain ⟨hnb23, hnc23⟩ := nn_ NB194_187
      obtain ⟨hcz24_0, hcz24_1, hcz24_2, hcz24_3, hcz24_4, hfz24_0, hfz24_1, hfz24_2, hfz24_3, hfz24_4⟩ := e5_ BK194
      go_wp2
      repeat (go_quiet (fail); try go_wp2)
      go_meet
      case rel => exact ⟨_, (true), eY, H', ⟨by first | omega | exact Nat.le_refl _⟩, ⟨by (with_reducible repeat (first | apply xN_ | apply xD_ | apply xA_)); refine xR_ ?_ NB187_194.out _; refine xR_ ?_ NB187_194.out _; refine xR_ ?_ NB187_194.out _; refine xR_ ?_ NB187_194.out _; refine xR_ ?_ NB187_194.out _; (with_reducible repeat (first | apply xN_ | apply xD_ | apply xA_)); exact BK187.out⟩, ⟨by (with_reducible repeat (first | apply xN_ | apply xD_ | apply xA_)); refine blk_put (cs := #[.int .i64 t188, .int .i64 t189, .int .i64 t190, .int .i64 t191, .int .i64 0]) ?_ 4 _ rfl; refine blk_put (cs := #[.int .i64 t188, .int .i64 t189, .int .i64 t190, .int .i64 0, .int .i64 0]) ?_ 3 _ rfl; refine blk_put (cs := #[.int .i64 t188, .int .i64 t189, .int .i64 0, .int .i64 0, .int .i64 0]) ?_ 2 _ rfl; refine blk_put (cs := #[.int .i64 t188, .int .i64 0, .int .i64 0, .int .i64 0, .int .i64 0]) ?_ 1 _ rfl; refine blk_put (cs := #[.int .i64 0, .int .i64 0, .int .i64 0, .int .i64 0, .int .i64 0]) ?_ 0 _ rfl; (with_reducible repeat (first | apply xN_ | apply xD_ | apply xA_)); exact BK194.out⟩, ⟨qH⟩⟩
    ·rw [if_neg c16] at H
     have c16b0 : (t189 == a2) = false := beq_eq_false_iff_ne.mpr c16
     have c16b1 : (t189 != a2) = true := bne_iff_ne.mpr c16
     have H' := Aside0.mk H
     clear H
     obtain ⟨hnb25, hnc25⟩ := nn_ NB194_187
     obtain ⟨hcz26_0, hcz26_1, hcz26_2, hcz26_3, hcz26_4, hfz26_0, hfz26_1, hfz26_2, hfz26_3, hfz26_4⟩ := e5_ BK194
     go_wp2
     repeat (go_quiet (fail); try go_wp2)
     go_meet
     case rel => exact ⟨_, (true), eY, H', ⟨by first | omega | exact Nat.le_refl _⟩, ⟨by (with_reducible repeat (first | apply xN_ | apply xD_ | apply xA_)); refine xR_ ?_ NB187_194.out _; refine xR_ ?_ NB187_194.out _; refine xR_ ?_ NB187_194.out _; refine xR_ ?_ NB187_194.out _; refine xR_ ?_ NB187_194.out _; (with_reducible repeat (first | apply xN_ | apply xD_ | apply xA_)); exact BK187.out⟩, ⟨by (with_reducible repeat (first | apply xN_ | apply xD_ | apply xA_)); refine blk_put (cs := #[.int .i64 t188, .int .i64 t189, .int .i64 t190, .int .i64 t191, .int .i64 0]) ?_ 4 _ rfl; refine blk_put (cs := #[.int .i64 t188, .int .i64 t189, .int .i64 t190, .int .i64 0, .int .i64 0]) ?_ 3 _ rfl; refine blk_put (cs := #[.int .i64 t188, .int .i64 t189, .int .i64 0, .int .i64 0, .int .i64 0]) ?_ 2 _ rfl; refine blk_put (cs := #[.int .i64 t188, .int .i64 0, .int .i64 0, .int .i64 0, .int .i64 0]) ?_ 1 _ rfl; refine blk_put (cs := #[.int .i64 0, .int .i64 0, .int .i64 0, .int .i64 0, .int .i64 0]) ?_ 0 _ rfl; (with_reducible repeat (first | apply xN_ | apply xD_ | apply xA_)); exact BK194.out⟩, ⟨qH⟩⟩
   ·rw [if_neg c15] at H
    have c15b0 : (t188 == 2) = false := beq_eq_false_iff_ne.mpr c15
    have c15b1 : (t188 != 2) = true := bne_iff_ne.mpr c15
    (first | rw [c15b0] | (simp only [i64_w, i32_w]; rw [c15b0]) | skip)
    have H' := Aside0.mk H
    clear H
    obtain ⟨hnb27, hnc27⟩ := nn_ NB194_187
    obtain ⟨hcz28_0, hcz28_1, hcz28_2, hcz28_3, hcz28_4, hfz28_0, hfz28_1, hfz28_2, hfz28_3, hfz28_4⟩ := e5_ BK194
    go_wp2
    repeat (go_quiet (fail); try go_wp2)
    go_meet
    case rel => exact ⟨_, (true), eY, H', ⟨by first | omega | exact Nat.le_refl _⟩, ⟨by (with_reducible repeat (first | apply xN_ | apply xD_ | apply xA_)); refine xR_ ?_ NB187_194.out _; refine xR_ ?_ NB187_194.out _; refine xR_ ?_ NB187_194.out _; refine xR_ ?_ NB187_194.out _; refine xR_ ?_ NB187_194.out _; (with_reducible repeat (first | apply xN_ | apply xD_ | apply xA_)); exact BK187.out⟩, ⟨by (with_reducible repeat (first | apply xN_ | apply xD_ | apply xA_)); refine blk_put (cs := #[.int .i64 t188, .int .i64 t189, .int .i64 t190, .int .i64 t191, .int .i64 0]) ?_ 4 _ rfl; refine blk_put (cs := #[.int .i64 t188, .int .i64 t189, .int .i64 t190, .int .i64 0, .int .i64 0]) ?_ 3 _ rfl; refine blk_put (cs := #[.int .i64 t188, .int .i64 t189, .int .i64 0, .int .i64 0, .int .i64 0]) ?_ 2 _ rfl; refine blk_put (cs := #[.int .i64 t188, .int .i64 0, .int .i64 0, .int .i64 0, .int .i64 0]) ?_ 1 _ rfl; refine blk_put (cs := #[.int .i64 0, .int .i64 0, .int .i64 0, .int .i64 0, .int .i64 0]) ?_ 0 _ rfl; (with_reducible repeat (first | apply xN_ | apply xD_ | apply xA_)); exact BK194.out⟩, ⟨qH⟩⟩
  ·replace c14 := Bool.eq_false_iff.mpr c14
   subst c14
   rw [if_neg nF_] at H
   have H' := Aside0.mk H
   clear H
   go_wp2
   repeat (go_quiet (fail); try go_wp2)
   go_meet
   case rel => exact ⟨_, (true), eY, H', ⟨by first | omega | exact Nat.le_refl _⟩, ⟨by (with_reducible repeat (first | apply xN_ | apply xD_ | apply xA_)); refine xR_ ?_ NB187_194.out _; refine xR_ ?_ NB187_194.out _; refine xR_ ?_ NB187_194.out _; refine xR_ ?_ NB187_194.out _; refine xR_ ?_ NB187_194.out _; (with_reducible repeat (first | apply xN_ | apply xD_ | apply xA_)); exact BK187.out⟩, ⟨by (with_reducible repeat (first | apply xN_ | apply xD_ | apply xA_)); refine blk_put (cs := #[.int .i64 t188, .int .i64 t189, .int .i64 t190, .int .i64 t191, .int .i64 0]) ?_ 4 _ rfl; refine blk_put (cs := #[.int .i64 t188, .int .i64 t189, .int .i64 t190, .int .i64 0, .int .i64 0]) ?_ 3 _ rfl; refine blk_put (cs := #[.int .i64 t188, .int .i64 t189, .int .i64 0, .int .i64 0, .int .i64 0]) ?_ 2 _ rfl; refine blk_put (cs := #[.int .i64 t188, .int .i64 0, .int .i64 0, .int .i64 0, .int .i64 0]) ?_ 1 _ rfl; refine blk_put (cs := #[.int .i64 0, .int .i64 0, .int .i64 0, .int .i64 0, .int .i64 0]) ?_ 0 _ rfl; (with_reducible repeat (first | apply xN_ | apply xD_ | apply xA_)); exact BK194.out⟩, ⟨qH⟩⟩
 case rest =>
  clear HC7
  (try clear p2); (try clear p6); (try clear hcz13_0); (try clear hcz13_1); (try clear hcz13_2); (try clear hcz13_3); (try clear hcz13_4); (try clear hcz9_0); (try clear hcz9_1)
  (try clear hcz9_2); (try clear hcz9_3); (try clear hfz13_0); (try clear hfz13_1); (try clear hfz13_2); (try clear hfz13_3); (try clear hfz13_4); (try clear hfz9_0)
  (try clear hfz9_1); (try clear hfz9_2); (try clear hfz9_3)
  obtain ⟨kq, x57_6, rfl, HA, HJ6, BK187, BK194, HB⟩ := hcut
  cases kq with
  | zero => exact absurd HA.out (by simp [journal_place_record.j0])
  | succ kj6 =>
   have H := HA.out
   clear HA
   simp only [journal_place_record.j0] at H
   by_cases c29 : x57_6 = true
   ·subst c29
    rw [if_pos rfl] at H
    simp only [Option.some.injEq, Prod.mk.injEq] at H
    obtain ⟨rfl, rfl, rfl⟩ := H
    go_wp2
    repeat (go_quiet (fail); try go_wp2)
    go_ret3
    exact ⟨eX, qH⟩
   ·replace c29 := Bool.eq_false_iff.mpr c29
    subst c29
    rw [if_neg nF_] at H
    have H' := Aside0.mk H
    clear H
    go_wp2
    repeat (go_quiet (fail); try go_wp2)
    go_loopg [14, 15] kj6 (fun kq v14 v15 w' => ∃ (x14_2 : List ByteArray) (x15_2 : Int), v15 = .int .i64 x15_2 ∧ Aside0 (journal_place_record.l0 kq (wrap64 ((wrap64 (a1 + 1)) + t195)) x14_2 x15_2 a0_0 a0_1 l0_2 l0_3 t188 t189 t190 t191 t192 = some (r1, r2, r3)) ∧ Aside0 (kq ≤ kj6) ∧ Aside0 (Kd.R Kd.string 9 w' w.heap.size (fun _ => True) v14 x14_2) ∧ Aside0 (w'.heap[gb187]? = some (.cells #[.int .i64 a0_0, .int .i64 a0_1, (.slice A0_2 l0_2.length c0_2), (.slice A0_3 l0_3.length c0_3)] 72 (0, 0))) ∧ Aside0 (w'.heap[gb194]? = some (.cells #[.int .i64 t188, .int .i64 t189, .int .i64 t190, .int .i64 t191, .int .i64 t192] 73 (0, 0))) ∧ Aside0 (Below w.heap.size w w'))
    case atStart => exact ⟨(([] : List ByteArray)), (wrap64 (a1 + 1)), eY, H', ⟨Nat.le_refl _⟩, ⟨by first | exact Kd.R_nil _ _ _ _ _ | exact Kd.N_nil _ _ _ _ _ | exact Kd.V_nil _ _ _ _ _ | exact Kd.Q_nil _ _ _ _ _ | exact Kd.S_nil _ _ _ _ _⟩, ⟨qB BK187⟩, ⟨qB BK194⟩, ⟨qH⟩⟩
    case round =>
     clear H'
     (try clear p2); (try clear p6); (try clear c29); (try clear p2); (try clear p6)
     obtain ⟨x14_2, x15_2, rfl, HA, HK2, HO_14, BK187, BK194, HB⟩ := hrel
     cases gk with
     | zero => exact absurd HA.out (by simp [journal_place_record.l0])
     | succ k2 =>
      have H := HA.out
      clear HA
      simp only [journal_place_record.l0] at H
      by_cases c30 : x15_2 < (wrap64 ((wrap64 (a1 + 1)) + t195))
      ·rw [if_pos c30] at H
       have c30b0 : decide (x15_2 < (wrap64 ((wrap64 (a1 + 1)) + t195))) = true := decide_eq_true c30
       clear c30
       replace H := Option.bind_eq_some_iff.mp H
       obtain ⟨⟨t197, t198⟩, A310, H⟩ := H
       try dsimp only at H
       have A31 := Aside0.mk A310
       clear A310
       by_cases c32 : x14_2.length < 8796093022208
       ·rw [if_pos c32] at H
        have LMc32 := Aside0.mk c32
        clear c32
        obtain ⟨y199, hy199⟩ : ∃ y_ : List ByteArray, y_ = (x14_2 ++ [t197]) := ⟨_, rfl⟩
        replace H : (journal_place_record.l0 k2 (wrap64 ((wrap64 (a1 + 1)) + t195)) y199 (wrap64 (x15_2 + 1)) a0_0 a0_1 l0_2 l0_3 t188 t189 t190 t191 t192) = some (r1, r2, r3) := by first | (rw [hy199]; with_reducible exact H) | (have H2_ := (Option.bind_some _ _).symm.trans H; rw [hy199]; with_reducible exact H2_) | (have H2_ := (Option.bind_some _ _).symm.trans H; with_reducible exact H2_) | with_reducible exact H | (rw [hy199]; exact H) | exact H
        have Ny199 := Aside0.mk hy199
        clear hy199
        have H' := Aside0.mk H
        clear H
        obtain ⟨hnb33, hnc33⟩ := nn_ NB187_194
        obtain ⟨hcz34_0, hcz34_1, hcz34_2, hcz34_3, hfz34_0, hfz34_1, hfz34_2, hfz34_3⟩ := e4_ BK187
        go_wp2_with (first | (go_at_call 52; (with_reducible refine (disk_Get.calls _ _ l0_2 _ _ l0_3 x15_2 t197 t198 _ ?side1 ?side2 ?side3 ?side4 A31.out).mono ?_); (case side1 => exact qC HR0_2); (case side2 => exact HC0_2.out); (case side3 => exact qC HR0_3); (case side4 => exact HC0_3.out); rintro e w35 ⟨rfl, hb⟩; have n0_ := Aside0.mk (Kd.R_below (qR HO_14.out) hb); have n1_ := wB BK187 hb; have n2_ := wB BK194 hb; have n3_ := wH hb; clear HO_14; clear BK187; clear BK194; clear HB; have HO_14 := n0_; have BK187 := n1_; have BK194 := n2_; have HB := n3_; clear n0_ n1_ n2_ n3_; (try clear hb); (try clear hb2); (try clear hk); (try clear hi)) | ((with_reducible refine gate_builtin (b := .append) (xs := #[.tmp 72, .tmp 74]) rfl ?_); at_builtin; refine Kd.R_append Kd.string (w0 := w) w.heap.size rfl (.tmp 72) (.tmp 74) 22 9 (.string ⟨#[]⟩) 16 rfl Try.underlying22 info9 rfl (by decide) (by omega) u14 x14_2 t197 [.string t197] (fun _ => True) (fun _ => False) rfl rfl ?aP (fun _ hk => hk.elim) ?aF ?aO ?aB ?aS ?aL ?_; (case aP => exact rfl); (case aB => exact qH); (case aF => exact (fun _ _ => trivial)); (case aO => exact (qR HO_14.out)); (case aS => exact (below_size qH)); (case aL => have := LMc32.out; omega); intro v200 w36 ho hb hg hat; rw [← Ny199.out] at ho; have n0_ := Aside0.mk (blk_grown (g := gb187) (o := .cells #[.int .i64 a0_0, .int .i64 a0_1, .slice A0_2 l0_2.length c0_2, .slice A0_3 l0_3.length c0_3] 72 (0, 0)) (qB BK187) hg (Kd.R_ne HO_14.out BK187.out (by decide))); have n1_ := Aside0.mk (blk_grown (g := gb194) (o := .cells #[.int .i64 t188, .int .i64 t189, .int .i64 t190, .int .i64 t191, .int .i64 t192] 73 (0, 0)) (qB BK194) hg (Kd.R_ne HO_14.out BK194.out (by decide))); have n2_ := Aside0.mk (hb); have n3_ := Aside0.mk (ho); clear BK187; clear BK194; clear HB; clear HO_14; have BK187 := n0_; have BK194 := n1_; have HB := n2_; have HO201 := n3_; clear n0_ n1_ n2_ n3_; clear ho hb hg hat))
        repeat (go_quiet (first | (go_at_call 52; (with_reducible refine (disk_Get.calls _ _ l0_2 _ _ l0_3 x15_2 t197 t198 _ ?side1 ?side2 ?side3 ?side4 A31.out).mono ?_); (case side1 => exact qC HR0_2); (case side2 => exact HC0_2.out); (case side3 => exact qC HR0_3); (case side4 => exact HC0_3.out); rintro e w35 ⟨rfl, hb⟩; have n0_ := Aside0.mk (Kd.R_below (qR HO_14.out) hb); have n1_ := wB BK187 hb; have n2_ := wB BK194 hb; have n3_ := wH hb; clear HO_14; clear BK187; clear BK194; clear HB; have HO_14 := n0_; have BK187 := n1_; have BK194 := n2_; have HB := n3_; clear n0_ n1_ n2_ n3_; (try clear hb); (try clear hb2); (try clear hk); (try clear hi)) | ((with_reducible refine gate_builtin (b := .append) (xs := #[.tmp 72, .tmp 74]) rfl ?_); at_builtin; refine Kd.R_append Kd.string (w0 := w) w.heap.size rfl (.tmp 72) (.tmp 74) 22 9 (.string ⟨#[]⟩) 16 rfl Try.underlying22 info9 rfl (by decide) (by omega) u14 x14_2 t197 [.string t197] (fun _ => True) (fun _ => False) rfl rfl ?aP (fun _ hk => hk.elim) ?aF ?aO ?aB ?aS ?aL ?_; (case aP => exact rfl); (case aB => exact qH); (case aF => exact (fun _ _ => trivial)); (case aO => exact (qR HO_14.out)); (case aS => exact (below_size qH)); (case aL => have := LMc32.out; omega); intro v200 w36 ho hb hg hat; rw [← Ny199.out] at ho; have n0_ := Aside0.mk (blk_grown (g := gb187) (o := .cells #[.int .i64 a0_0, .int .i64 a0_1, .slice A0_2 l0_2.length c0_2, .slice A0_3 l0_3.length c0_3] 72 (0, 0)) (qB BK187) hg (Kd.R_ne HO_14.out BK187.out (by decide))); have n1_ := Aside0.mk (blk_grown (g := gb194) (o := .cells #[.int .i64 t188, .int .i64 t189, .int .i64 t190, .int .i64 t191, .int .i64 t192] 73 (0, 0)) (qB BK194) hg (Kd.R_ne HO_14.out BK194.out (by decide))); have n2_ := Aside0.mk (hb); have n3_ := Aside0.mk (ho); clear BK187; clear BK194; clear HB; clear HO_14; have BK187 := n0_; have BK194 := n1_; have HB := n2_; have HO201 := n3_; clear n0_ n1_ n2_ n3_; clear ho hb hg hat)); try go_wp2_with (first | (go_at_call 52; (with_reducible refine (disk_Get.calls _ _ l0_2 _ _ l0_3 x15_2 t197 t198 _ ?side1 ?side2 ?side3 ?side4 A31.out).mono ?_); (case side1 => exact qC HR0_2); (case side2 => exact HC0_2.out); (case side3 => exact qC HR0_3); (case side4 => exact HC0_3.out); rintro e w35 ⟨rfl, hb⟩; have n0_ := Aside0.mk (Kd.R_below (qR HO_14.out) hb); have n1_ := wB BK187 hb; have n2_ := wB BK194 hb; have n3_ := wH hb; clear HO_14; clear BK187; clear BK194; clear HB; have HO_14 := n0_; have BK187 := n1_; have BK194 := n2_; have HB := n3_; clear n0_ n1_ n2_ n3_; (try clear hb); (try clear hb2); (try clear hk); (try clear hi)) | ((with_reducible refine gate_builtin (b := .append) (xs := #[.tmp 72, .tmp 74]) rfl ?_); at_builtin; refine Kd.R_append Kd.string (w0 := w) w.heap.size rfl (.tmp 72) (.tmp 74) 22 9 (.string ⟨#[]⟩) 16 rfl Try.underlying22 info9 rfl (by decide) (by omega) u14 x14_2 t197 [.string t197] (fun _ => True) (fun _ => False) rfl rfl ?aP (fun _ hk => hk.elim) ?aF ?aO ?aB ?aS ?aL ?_; (case aP => exact rfl); (case aB => exact qH); (case aF => exact (fun _ _ => trivial)); (case aO => exact (qR HO_14.out)); (case aS => exact (below_size qH)); (case aL => have := LMc32.out; omega); intro v200 w36 ho hb hg hat; rw [← Ny199.out] at ho; have n0_ := Aside0.mk (blk_grown (g := gb187) (o := .cells #[.int .i64 a0_0, .int .i64 a0_1, .slice A0_2 l0_2.length c0_2, .slice A0_3 l0_3.length c0_3] 72 (0, 0)) (qB BK187) hg (Kd.R_ne HO_14.out BK187.out (by decide))); have n1_ := Aside0.mk (blk_grown (g := gb194) (o := .cells #[.int .i64 t188, .int .i64 t189, .int .i64 t190, .int .i64 t191, .int .i64 t192] 73 (0, 0)) (qB BK194) hg (Kd.R_ne HO_14.out BK194.out (by decide))); have n2_ := Aside0.mk (hb); have n3_ := Aside0.mk (ho); clear BK187; clear BK194; clear HB; clear HO_14; have BK187 := n0_; have BK194 := n1_; have HB := n2_; have HO201 := n3_; clear n0_ n1_ n2_ n3_; clear ho hb hg hat)))
        go_roundg k2
        case measure => have := HJ6.out; have := HK2.out; omega
        case rel => exact ⟨(y199), (wrap64 (x15_2 + 1)), eY, H', ⟨by have := HJ6.out; have := HK2.out; omega⟩, ⟨qR HO201.out⟩, ⟨qB BK187⟩, ⟨qB BK194⟩, ⟨qH⟩⟩
       ·rw [if_neg c32] at H
        exact absurd H (by simp)
      ·rw [if_neg c30] at H
       have c30b0 : decide (x15_2 < (wrap64 ((wrap64 (a1 + 1)) + t195))) = false := decide_eq_false c30
       clear c30
       replace H := Option.bind_eq_some_iff.mp H
       obtain ⟨⟨t202, t203⟩, A370, H⟩ := H
       try dsimp only at H
       have A37 := Aside0.mk A370
       clear A370
       by_cases c38 : t203 = true
       ·subst c38
        rw [if_pos rfl] at H
        replace H := Option.bind_eq_some_iff.mp H
        obtain ⟨t204, A390, H⟩ := H
        try dsimp only at H
        have A39 := Aside0.mk A390
        clear A390
        simp only [Option.some.injEq, Prod.mk.injEq] at H
        obtain ⟨rfl, rfl, rfl⟩ := H
        obtain ⟨hnb40, hnc40⟩ := nn_ NB194_187
        obtain ⟨hcz41_0, hcz41_1, hcz41_2, hcz41_3, hcz41_4, hfz41_0, hfz41_1, hfz41_2, hfz41_3, hfz41_4⟩ := e5_ BK194
        obtain ⟨Ao42, co42, eo42⟩ := Kd.R_slice HO_14.out
        subst eo42
        go_wp2_with (first | (go_at_call 56; (with_reducible refine (rec_Join.calls k2 _ _ x14_2 t191 t202 true _ ?side1 ?side2 A37.out).mono ?_); (case side1 => exact qK (Kd.R_reads' HO_14.out).2.2); (case side2 => exact (Kd.R_reads' HO_14.out).2.1); rintro e w43 ⟨rfl, hb⟩; have n0_ := Aside0.mk (Kd.R_below (qR HO_14.out) hb); have n1_ := wB BK187 hb; have n2_ := wB BK194 hb; have n3_ := wH hb; clear HO_14; clear BK187; clear BK194; clear HB; have HO_14 := n0_; have BK187 := n1_; have BK194 := n2_; have HB := n3_; clear n0_ n1_ n2_ n3_; (try clear hb); (try clear hb2); (try clear hk); (try clear hi)) | (go_at_call 54; (with_reducible refine (sum_Of.calls k2 t202 t204 _ A39.out).mono ?_); rintro e w' ⟨rfl, ⟨nd, rfl⟩⟩; (try first | exact ⟨rfl, _, World.drewN_drewN _ _ _⟩ | exact ⟨rfl, _, Eq.trans (World.drewN_drewN _ _ _) (congrArg (World.drewN _) (Nat.add_assoc _ _ _))⟩); obtain ⟨hcz44_0, hcz44_1, hcz44_2, hcz44_3, hcz44_4, hfz44_0, hfz44_1, hfz44_2, hfz44_3, hfz44_4⟩ := e5_ BK194))
        repeat (go_quiet (first | (go_at_call 56; (with_reducible refine (rec_Join.calls k2 _ _ x14_2 t191 t202 true _ ?side1 ?side2 A37.out).mono ?_); (case side1 => exact qK (Kd.R_reads' HO_14.out).2.2); (case side2 => exact (Kd.R_reads' HO_14.out).2.1); rintro e w43 ⟨rfl, hb⟩; have n0_ := Aside0.mk (Kd.R_below (qR HO_14.out) hb); have n1_ := wB BK187 hb; have n2_ := wB BK194 hb; have n3_ := wH hb; clear HO_14; clear BK187; clear BK194; clear HB; have HO_14 := n0_; have BK187 := n1_; have BK194 := n2_; have HB := n3_; clear n0_ n1_ n2_ n3_; (try clear hb); (try clear hb2); (try clear hk); (try clear hi)) | (go_at_call 54; (with_reducible refine (sum_Of.calls k2 t202 t204 _ A39.out).mono ?_); rintro e w' ⟨rfl, ⟨nd, rfl⟩⟩; (try first | exact ⟨rfl, _, World.drewN_drewN _ _ _⟩ | exact ⟨rfl, _, Eq.trans (World.drewN_drewN _ _ _) (congrArg (World.drewN _) (Nat.add_assoc _ _ _))⟩); obtain ⟨hcz44_0, hcz44_1, hcz44_2, hcz44_3, hcz44_4, hfz44_0, hfz44_1, hfz44_2, hfz44_3, hfz44_4⟩ := e5_ BK194)); try go_wp2_with (first | (go_at_call 56; (with_reducible refine (rec_Join.calls k2 _ _ x14_2 t191 t202 true _ ?side1 ?side2 A37.out).mono ?_); (case side1 => exact qK (Kd.R_reads' HO_14.out).2.2); (case side2 => exact (Kd.R_reads' HO_14.out).2.1); rintro e w43 ⟨rfl, hb⟩; have n0_ := Aside0.mk (Kd.R_below (qR HO_14.out) hb); have n1_ := wB BK187 hb; have n2_ := wB BK194 hb; have n3_ := wH hb; clear HO_14; clear BK187; clear BK194; clear HB; have HO_14 := n0_; have BK187 := n1_; have BK194 := n2_; have HB := n3_; clear n0_ n1_ n2_ n3_; (try clear hb); (try clear hb2); (try clear hk); (try clear hi)) | (go_at_call 54; (with_reducible refine (sum_Of.calls k2 t202 t204 _ A39.out).mono ?_); rintro e w' ⟨rfl, ⟨nd, rfl⟩⟩; (try first | exact ⟨rfl, _, World.drewN_drewN _ _ _⟩ | exact ⟨rfl, _, Eq.trans (World.drewN_drewN _ _ _) (congrArg (World.drewN _) (Nat.add_assoc _ _ _))⟩); obtain ⟨hcz44_0, hcz44_1, hcz44_2, hcz44_3, hcz44_4, hfz44_0, hfz44_1, hfz44_2, hfz44_3, hfz44_4⟩ := e5_ BK194)))
        go_ret3
        exact ⟨eX, qH⟩
       ·replace c38 := Bool.eq_false_iff.mpr c38
        subst c38
        rw [if_neg nF_] at H
        simp only [Option.some.injEq, Prod.mk.injEq] at H
        obtain ⟨rfl, rfl, rfl⟩ := H
        obtain ⟨hnb45, hnc45⟩ := nn_ NB194_187
        obtain ⟨hcz46_0, hcz46_1, hcz46_2, hcz46_3, hcz46_4, hfz46_0, hfz46_1, hfz46_2, hfz46_3, hfz46_4⟩ := e5_ BK194
        obtain ⟨Ao47, co47, eo47⟩ := Kd.R_slice HO_14.out
        subst eo47
        go_wp2_with (first | (go_at_call 56; (with_reducible refine (rec_Join.calls k2 _ _ x14_2 t191 t202 false _ ?side1 ?side2 A37.out).mono ?_); (case side1 => exact qK (Kd.R_reads' HO_14.out).2.2); (case side2 => exact (Kd.R_reads' HO_14.out).2.1); rintro e w48 ⟨rfl, hb⟩; have n0_ := Aside0.mk (Kd.R_below (qR HO_14.out) hb); have n1_ := wB BK187 hb; have n2_ := wB BK194 hb; have n3_ := wH hb; clear HO_14; clear BK187; clear BK194; clear HB; have HO_14 := n0_; have BK187 := n1_; have BK194 := n2_; have HB := n3_; clear n0_ n1_ n2_ n3_; (try clear hb); (try clear hb2); (try clear hk); (try clear hi)))
        repeat (go_quiet (first | (go_at_call 56; (with_reducible refine (rec_Join.calls k2 _ _ x14_2 t191 t202 false _ ?side1 ?side2 A37.out).mono ?_); (case side1 => exact qK (Kd.R_reads' HO_14.out).2.2); (case side2 => exact (Kd.R_reads' HO_14.out).2.1); rintro e w48 ⟨rfl, hb⟩; have n0_ := Aside0.mk (Kd.R_below (qR HO_14.out) hb); have n1_ := wB BK187 hb; have n2_ := wB BK194 hb; have n3_ := wH hb; clear HO_14; clear BK187; clear BK194; clear HB; have HO_14 := n0_; have BK187 := n1_; have BK194 := n2_; have HB := n3_; clear n0_ n1_ n2_ n3_; (try clear hb); (try clear hb2); (try clear hk); (try clear hi))); try go_wp2_with (first | (go_at_call 56; (with_reducible refine (rec_Join.calls k2 _ _ x14_2 t191 t202 false _ ?side1 ?side2 A37.out).mono ?_); (case side1 => exact qK (Kd.R_reads' HO_14.out).2.2); (case side2 => exact (Kd.R_reads' HO_14.out).2.1); rintro e w48 ⟨rfl, hb⟩; have n0_ := Aside0.mk (Kd.R_below (qR HO_14.out) hb); have n1_ := wB BK187 hb; have n2_ := wB BK194 hb; have n3_ := wH hb; clear HO_14; clear BK187; clear BK194; clear HB; have BK187 := n1_; have BK194 := n2_; have HB := n3_; clear n0_ n1_ n2_ n3_; (try clear hb); (try clear hb2); (try clear hk); (try clear hi))))
        go_ret3
        exact ⟨eX, qH⟩
section
attribute [local go_sem high] eqA73
mutual
def journal_Open.j0 : Nat → Bool → Int → Int → Int → Int → List ByteArray → List (S29) → Int → Int → Int → Int → Int → Option (Int × List ByteArray × Int × Int)
 | 0, _, _, _, _, _, _, _, _, _, _, _, _ => none
 | k + 1, x41, x207000, x207001, x209000, x209001, x209002, x209003, x217000, x217001, x217002, x217003, x217004 => if x41 = true then (some (0, ([] : List ByteArray), 0, 5)) else (journal_Open.l0 k x207000 x207001 x209000 x209001 x209002 x209003 x217001 ([] : List ByteArray) (wrap64 (x207000 + 1)))
def journal_Open.l0 : Nat → Int → Int → Int → Int → List ByteArray → List (S29) → Int → List ByteArray → Int → Option (Int × List ByteArray × Int × Int)
 | 0, _, _, _, _, _, _, _, _, _ => none
 | k + 1, x207000, x207001, x209000, x209001, x209002, x209003, x225000, x225001, x225002 => (journal_Region_end.f x207000 x207001).bind fun t225 => (if x225002 = t225 then (some (x225000, x225001, x225002, 0)) else ((journal_place_record.f k x209000 x209001 x209002 x209003 x225002 x225000 (x225001.length : Int)).bind fun bt226 => (if bt226.2.2 = true then (if x225001.length < 8796093022208 then (journal_Open.l0 k x207000 x207001 x209000 x209001 x209002 x209003 x225000 (x225001 ++ [bt226.1]) bt226.2.1) else (none)) else (some (x225000, x225001, x225002, 0)))))
end
def journal_Open.f (k : Nat) (l0_0 : List ByteArray) (l0_1 : List (S29)) (a1_0 : Int) (a1_1 : Int) : Option (Int × List ByteArray × Int × Int) := (journal_place_lies.f k a1_0 a1_1 l0_0 l0_1).bind fun t209 => (if t209 = true then ((journal_place_head.f k a1_0 a1_1 l0_0 l0_1 a1_0).bind fun bt210 => ((rec_Make.f k 1 bt210.2.1 0 (⟨#[]⟩ : ByteArray)).bind fun bt217 => (if bt210.2.2.2.2.2 = true then (journal_Open.j0 k (!(bt210.1 == bt217.1) || (!(bt210.2.1 == bt217.2.1) || (!(bt210.2.2.1 == bt217.2.2.1) || (!(bt210.2.2.2.1 == bt217.2.2.2.1) || (!(bt210.2.2.2.2.1 == bt217.2.2.2.2.1)))))) a1_0 a1_1 a1_0 a1_1 l0_0 l0_1 bt210.1 bt210.2.1 bt210.2.2.1 bt210.2.2.2.1 bt210.2.2.2.2.1) else (journal_Open.j0 k true a1_0 a1_1 a1_0 a1_1 l0_0 l0_1 bt210.1 bt210.2.1 bt210.2.2.1 bt210.2.2.2.1 bt210.2.2.2.2.1)))) else (some (0, ([] : List ByteArray), 0, 1)))
theorem journal_Open.mono_l : ∀ k, (∀ y0 y1 y2 y3 y4 y5 y6 y7 y8 y9 y10 y11, LeO (journal_Open.j0 k y0 y1 y2 y3 y4 y5 y6 y7 y8 y9 y10 y11) (journal_Open.j0 (k + 1) y0 y1 y2 y3 y4 y5 y6 y7 y8 y9 y10 y11)) ∧ (∀ y0 y1 y2 y3 y4 y5 y6 y7 y8, LeO (journal_Open.l0 k y0 y1 y2 y3 y4 y5 y6 y7 y8) (journal_Open.l0 (k + 1) y0 y1 y2 y3 y4 y5 y6 y7 y8))
 | 0 => ⟨fun _ _ _ _ _ _ _ _ _ _ _ _ r h => by simp [journal_Open.j0] at h, fun _ _ _ _ _ _ _ _ _ r h => by simp [journal_Open.l0] at h⟩
 | k + 1 => by
  obtain ⟨ih0, ih1⟩ := journal_Open.mono_l k
  refine ⟨?_, ?_⟩
  ·intro y0 y1 y2 y3 y4 y5 y6 y7 y8 y9 y10 y11
   unfold journal_Open.j0
   repeat' first
   | (with_reducible exact ih0 _ _ _ _ _ _ _ _ _ _ _ _)
   | (with_reducible exact ih1 _ _ _ _ _ _ _ _ _)
   | (with_reducible exact journal_place_head.mono _ _ _ _ _ _)
   | (with_reducible exact journal_place_lies.mono _ _ _ _ _)
   | (with_reducible exact journal_place_record.mono _ _ _ _ _ _ _ _)
   | (with_reducible exact rec_Make.mono _ _ _ _ _)
   | (with_reducible exact LeO.refl _)
   | (with_reducible exact LeO.none _)
   | (with_reducible refine LeO.ite ?_ ?_)
   | (with_reducible refine LeO.bind ?_ (fun _ => ?_))
   | exact ih0 _ _ _ _ _ _ _ _ _ _ _ _
   | exact ih1 _ _ _ _ _ _ _ _ _
   | exact journal_place_head.mono _ _ _ _ _ _
   | exact journal_place_lies.mono _ _ _ _ _
   | exact journal_place_record.mono _ _ _ _ _ _ _ _
   | exact rec_Make.mono _ _ _ _ _
   | exact LeO.none _
   | refine LeO.ite ?_ ?_
   | refine LeO.bind ?_ (fun _ => ?_)
  ·intro y0 y1 y2 y3 y4 y5 y6 y7 y8
   unfold journal_Open.l0
   repeat' first
   | (with_reducible exact ih0 _ _ _ _ _ _ _ _ _ _ _ _)
   | (with_reducible exact ih1 _ _ _ _ _ _ _ _ _)
   | (with_reducible exact journal_place_head.mono _ _ _ _ _ _)
   | (with_reducible exact journal_place_lies.mono _ _ _ _ _)
   | (with_reducible exact journal_place_record.mono _ _ _ _ _ _ _ _)
   | (with_reducible exact rec_Make.mono _ _ _ _ _)
   | (with_reducible exact LeO.refl _)
   | (with_reducible exact LeO.none _)
   | (with_reducible refine LeO.ite ?_ ?_)
   | (with_reducible refine LeO.bind ?_ (fun _ => ?_))
   | exact ih0 _ _ _ _ _ _ _ _ _ _ _ _
   | exact ih1 _ _ _ _ _ _ _ _ _
   | exact journal_place_head.mono _ _ _ _ _ _
   | exact journal_place_lies.mono _ _ _ _ _
   | exact journal_place_record.mono _ _ _ _ _ _ _ _
   | exact rec_Make.mono _ _ _ _ _
   | exact LeO.none _
   | refine LeO.ite ?_ ?_
   | refine LeO.bind ?_ (fun _ => ?_)
theorem journal_Open.mono : ∀ a0 a1 a2 a3 k, LeO (journal_Open.f k a0 a1 a2 a3) (journal_Open.f (k + 1) a0 a1 a2 a3) := by
 intro a0 a1 a2 a3 k
 obtain ⟨ih0, ih1⟩ := journal_Open.mono_l k
 unfold journal_Open.f
 repeat' first
   | (with_reducible exact ih0 _ _ _ _ _ _ _ _ _ _ _ _)
   | (with_reducible exact ih1 _ _ _ _ _ _ _ _ _)
   | (with_reducible exact journal_place_head.mono _ _ _ _ _ _)
   | (with_reducible exact journal_place_lies.mono _ _ _ _ _)
   | (with_reducible exact journal_place_record.mono _ _ _ _ _ _ _ _)
   | (with_reducible exact rec_Make.mono _ _ _ _ _)
   | (with_reducible exact LeO.refl _)
   | (with_reducible exact LeO.none _)
   | (with_reducible refine LeO.ite ?_ ?_)
   | (with_reducible refine LeO.bind ?_ (fun _ => ?_))
   | exact ih0 _ _ _ _ _ _ _ _ _ _ _ _
   | exact ih1 _ _ _ _ _ _ _ _ _
   | exact journal_place_head.mono _ _ _ _ _ _
   | exact journal_place_lies.mono _ _ _ _ _
   | exact journal_place_record.mono _ _ _ _ _ _ _ _
   | exact rec_Make.mono _ _ _ _ _
   | exact LeO.none _
   | refine LeO.ite ?_ ?_
   | refine LeO.bind ?_ (fun _ => ?_)
set_option maxHeartbeats 8000000 in
set_option maxRecDepth 100000 in
theorem journal_Open.calls (k : Nat) (A0_0 : Option Addr) (c0_0 : Nat) (l0_0 : List ByteArray) (A0_1 : Option Addr) (c0_1 : Nat) (l0_1 : List (S29)) (a1_0 : Int) (a1_1 : Int) (r1 : Int) (r2 : List ByteArray) (r3 : Int) (r4 : Int) (w : World) (hr0_0 : Kd.C Kd.string w A0_0 l0_0.length l0_0) (hc0_0 : l0_0.length ≤ c0_0) (hr0_1 : Kd.C k29 w A0_1 l0_1.length l0_1) (hc0_1 : l0_1.length ≤ c0_1) (h : journal_Open.f k l0_0 l0_1 a1_0 a1_1 = some (r1, r2, r3, r4)) :
  Calls Try.prog 11 #[.agg #[.slice A0_0 l0_0.length c0_0, .slice A0_1 l0_1.length c0_1], .agg #[.int .i64 a1_0, .int .i64 a1_1]] w fun e w' => ∃ v1_ : Value, e = .returned (.tuple #[.agg #[.int .i64 r1, v1_, .int .i64 r3], .int .i64 r4]) ∧ Kd.R Kd.string 9 w' w.heap.size (fun _ => True) v1_ r2 ∧ Below w.heap.size w w' := by
 have hu25 := Try.underlying25
 have hu40 := Try.underlying40
 have hu37 := Try.underlying37
 have hu72 := Try.underlying72
 have hu73 := Try.underlying73
 have HR0_0 := Aside0.mk hr0_0
 have HC0_0 := Aside0.mk hc0_0
 clear hr0_0 hc0_0
 have HR0_1 := Aside0.mk hr0_1
 have HC0_1 := Aside0.mk hc0_1
 clear hr0_1 hc0_1
 have HB := Aside0.mk (Below.refl w.heap.size w)
 have H := h
 unfold journal_Open.f at H
 clear h
 replace H := Option.bind_eq_some_iff.mp H
 obtain ⟨t209, A30, H⟩ := H
 try dsimp only at H
 have A3 := Aside0.mk A30
 clear A30
 by_cases c4 : t209 = true
 ·subst c4
  rw [if_pos rfl] at H
  replace H := Option.bind_eq_some_iff.mp H
  obtain ⟨⟨t210, t211, t212, t213, t214, t215⟩, A50, H⟩ := H
  try dsimp only at H
  have A5 := Aside0.mk A50
  clear A50
  replace H := Option.bind_eq_some_iff.mp H
  obtain ⟨⟨t217, t218, t219, t220, t221, t222⟩, A60, H⟩ := H
  try dsimp only at H
  have A6 := Aside0.mk A60
  clear A60
  have HC7 := Aside0.mk H
  clear H
  go_enter Try.func11, Try.ntmps11
  go_upto_region 6 with (first | ((with_reducible refine gate_dst (N := 2) rfl ?_); refine bE (N := 2) (cs := #[.slice A0_0 l0_0.length c0_0, .slice A0_1 l0_1.length c0_1]) (t := 25) ?_; intro gb205 hg w8 hbox hb; have hz_ := zqA HB hb; replace hb := below_step hz_ hb; have BK205 := Aside0.mk hbox; have GE205 := zG HB hz_ hg; replace HB := zH HB hb; clear hz_; clear hb hbox hg) | ((with_reducible refine gate_dst (N := 3) rfl ?_); refine bE (N := 3) (cs := #[.int .i64 a1_0, .int .i64 a1_1]) (t := 40) ?_; intro gb206 hg w9 hbox hb; have hz_ := zqA HB hb; replace hb := below_step hz_ hb; have BK206 := Aside0.mk hbox; have GE206 := zG HB hz_ hg; have NB205_206 := zN BK205 hz_ hg; have NB206_205 := zM BK205 hz_ hg; replace BK205 := zB BK205 hb; replace HB := zH HB hb; clear hz_; clear hb hbox hg) | ((with_reducible refine gate_dst (N := 4) rfl ?_); refine bE (N := 4) (cs := #[.int .i64 0, .slice none 0 0, .int .i64 0]) (t := 37) ?_; intro gb207 hg w10 hbox hb; have hz_ := zqA HB hb; replace hb := below_step hz_ hb; have BK207 := Aside0.mk hbox; have GE207 := zG HB hz_ hg; have NB205_207 := zN BK205 hz_ hg; have NB207_205 := zM BK205 hz_ hg; have NB206_207 := zN BK206 hz_ hg; have NB207_206 := zM BK206 hz_ hg; replace BK205 := zB BK205 hb; replace BK206 := zB BK206 hb; replace HB := zH HB hb; clear hz_; clear hb hbox hg; obtain ⟨hnb11, hnc11⟩ := nn_ NB206_205; obtain ⟨hnb12, hnc12⟩ := nn_ NB206_207; obtain ⟨hcz13_0, hcz13_1, hfz13_0, hfz13_1⟩ := e2_ BK206; obtain ⟨hnb14, hnc14⟩ := nn_ NB205_207; obtain ⟨hcz15_0, hcz15_1, hfz15_0, hfz15_1⟩ := e2_ BK205) | ((with_reducible refine gate_dst (N := 6) rfl ?_); refine bE (N := 6) (cs := #[.int .i64 0, .int .i64 0, .slice none 0 0, .slice none 0 0]) (t := 72) ?_; intro gb208 hg w16 hbox hb; have hz_ := zqA HB hb; replace hb := below_step hz_ hb; have BK208 := Aside0.mk hbox; have GE208 := zG HB hz_ hg; have NB205_208 := zN BK205 hz_ hg; have NB208_205 := zM BK205 hz_ hg; have NB206_208 := zN BK206 hz_ hg; have NB208_206 := zM BK206 hz_ hg; have NB207_208 := zN BK207 hz_ hg; have NB208_207 := zM BK207 hz_ hg; replace BK205 := zB BK205 hb; replace BK206 := zB BK206 hb; replace BK207 := zB BK207 hb; replace HB := zH HB hb; clear hz_; clear hb hbox hg; obtain ⟨hnb17, hnc17⟩ := nn_ NB208_205; obtain ⟨hnb18, hnc18⟩ := nn_ NB208_206; obtain ⟨hnb19, hnc19⟩ := nn_ NB208_207; obtain ⟨hcz20_0, hcz20_1, hcz20_2, hcz20_3, hfz20_0, hfz20_1, hfz20_2, hfz20_3⟩ := e4_ BK208) | ((with_reducible refine gate_callee (f := 32) rfl ?_); refine gL (some 19) Try.func32 #[.agg #[.int .i64 a1_0, .int .i64 a1_1, .slice A0_0 l0_0.length c0_0, .slice A0_1 l0_1.length c0_1]] ?_; (with_reducible refine (journal_place_lies.calls k a1_0 a1_1 _ _ l0_0 _ _ l0_1 true _ ?side1 ?side2 ?side3 ?side4 A3.out).mono ?_); (case side1 => exact Kd.C_below HR0_0.out qH); (case side2 => exact HC0_0.out); (case side3 => exact Kd.C_below HR0_1.out qH); (case side4 => exact HC0_1.out); rintro e w21 ⟨rfl, hb⟩; refine ⟨_, rfl, ?_⟩; replace BK205 := wF BK205 hb; replace BK206 := wF BK206 hb; replace BK207 := wF BK207 hb; replace BK208 := wP4 BK208 hb; replace HB := wH hb; (try clear hb); obtain ⟨hcz22_0, hcz22_1, hcz22_2, hcz22_3, hfz22_0, hfz22_1, hfz22_2, hfz22_3⟩ := e4_ BK208; obtain ⟨hcz23_0, hcz23_1, hfz23_0, hfz23_1⟩ := e2_ BK206) | ((with_reducible refine gate_callee (f := 33) rfl ?_); refine gL (some 26) Try.func33 #[.agg #[.int .i64 a1_0, .int .i64 a1_1, .slice A0_0 l0_0.length c0_0, .slice A0_1 l0_1.length c0_1], .int .i64 a1_0] ?_; (with_reducible refine (journal_place_head.calls k a1_0 a1_1 _ _ l0_0 _ _ l0_1 a1_0 t210 t211 t212 t213 t214 t215 _ ?side1 ?side2 ?side3 ?side4 A5.out).mono ?_); (case side1 => exact qC HR0_0); (case side2 => exact HC0_0.out); (case side3 => exact qC HR0_1); (case side4 => exact HC0_1.out); rintro e w24 ⟨rfl, hb⟩; refine ⟨_, rfl, ?_⟩; have hz_ := zqA HB hb; replace hb := below_step hz_ hb; replace BK205 := zB BK205 hb; replace BK206 := zB BK206 hb; replace BK207 := zB BK207 hb; replace BK208 := zB BK208 hb; replace HB := zH HB hb; clear hz_; (try clear hb)) | ((with_reducible refine gate_dst (N := 7) rfl ?_); refine bE (N := 7) (cs := #[.int .i64 0, .int .i64 0, .int .i64 0, .int .i64 0, .int .i64 0]) (t := 73) ?_; intro gb216 hg w25 hbox hb; have hz_ := zqA HB hb; replace hb := below_step hz_ hb; have BK216 := Aside0.mk hbox; have GE216 := zG HB hz_ hg; have NB205_216 := zN BK205 hz_ hg; have NB216_205 := zM BK205 hz_ hg; have NB206_216 := zN BK206 hz_ hg; have NB216_206 := zM BK206 hz_ hg; have NB207_216 := zN BK207 hz_ hg; have NB216_207 := zM BK207 hz_ hg; have NB208_216 := zN BK208 hz_ hg; have NB216_208 := zM BK208 hz_ hg; replace BK205 := zB BK205 hb; replace BK206 := zB BK206 hb; replace BK207 := zB BK207 hb; replace BK208 := zB BK208 hb; replace HB := zH HB hb; clear hz_; clear hb hbox hg; obtain ⟨hnb26, hnc26⟩ := nn_ NB216_205; obtain ⟨hnb27, hnc27⟩ := nn_ NB216_206; obtain ⟨hnb28, hnc28⟩ := nn_ NB216_207; obtain ⟨hnb29, hnc29⟩ := nn_ NB216_208; obtain ⟨hcz30_0, hcz30_1, hcz30_2, hcz30_3, hcz30_4, hfz30_0, hfz30_1, hfz30_2, hfz30_3, hfz30_4⟩ := e5_ BK216) | ((with_reducible refine gate_callee (f := 34) rfl ?_); refine gL (some 32) Try.func34 #[.int .i64 1, .int .i64 t211, .int .i64 0, .string (⟨#[]⟩ : ByteArray)] ?_; (with_reducible refine (rec_Make.calls k 1 t211 0 (⟨#[]⟩ : ByteArray) t217 t218 t219 t220 t221 t222 _ A6.out).mono ?_); rintro e w31 ⟨rfl, hb⟩; refine ⟨_, rfl, ?_⟩; replace BK205 := wF BK205 hb; replace BK206 := wF BK206 hb; replace BK207 := wF BK207 hb; replace BK208 := wF BK208 hb; replace BK216 := wP5 BK216 hb; replace HB := wH hb; (try clear hb)) | ((with_reducible refine gate_dst (N := 9) rfl ?_); refine bE (N := 9) (cs := #[.int .i64 0, .int .i64 0, .int .i64 0, .int .i64 0, .int .i64 0]) (t := 73) ?_; intro gb223 hg w32 hbox hb; have hz_ := zqA HB hb; replace hb := below_step hz_ hb; have BK223 := Aside0.mk hbox; have GE223 := zG HB hz_ hg; have NB205_223 := zN BK205 hz_ hg; have NB223_205 := zM BK205 hz_ hg; have NB206_223 := zN BK206 hz_ hg; have NB223_206 := zM BK206 hz_ hg; have NB207_223 := zN BK207 hz_ hg; have NB223_207 := zM BK207 hz_ hg; have NB208_223 := zN BK208 hz_ hg; have NB223_208 := zM BK208 hz_ hg; have NB216_223 := zN BK216 hz_ hg; have NB223_216 := zM BK216 hz_ hg; replace BK205 := zB BK205 hb; replace BK206 := zB BK206 hb; replace BK207 := zB BK207 hb; replace BK208 := zB BK208 hb; replace BK216 := zB BK216 hb; replace HB := zH HB hb; clear hz_; clear hb hbox hg; obtain ⟨hnb33, hnc33⟩ := nn_ NB223_205; obtain ⟨hnb34, hnc34⟩ := nn_ NB223_206; obtain ⟨hnb35, hnc35⟩ := nn_ NB223_207; obtain ⟨hnb36, hnc36⟩ := nn_ NB223_208; obtain ⟨hnb37, hnc37⟩ := nn_ NB223_216; obtain ⟨hcz38_0, hcz38_1, hcz38_2, hcz38_3, hcz38_4, hfz38_0, hfz38_1, hfz38_2, hfz38_3, hfz38_4⟩ := e5_ BK223))
  (try simp only [Act.put, List.setIfInBounds_toArray, List.set_cons_zero, List.set_cons_succ])
  go_cut [41] (fun v41 wc => ∃ (kq : Nat) (x41_6 : Bool), v41 = .bool x41_6 ∧ Aside0 (journal_Open.j0 kq x41_6 a1_0 a1_1 a1_0 a1_1 l0_0 l0_1 t210 t211 t212 t213 t214 = some (r1, r2, r3, r4)) ∧ Aside0 (kq ≤ k) ∧ Aside0 (wc.heap[gb205]? = some (.cells #[(.slice A0_0 l0_0.length c0_0), (.slice A0_1 l0_1.length c0_1)] 25 (0, 0))) ∧ Aside0 (wc.heap[gb206]? = some (.cells #[.int .i64 a1_0, .int .i64 a1_1] 40 (0, 0))) ∧ Aside0 (wc.heap[gb207]? = some (.cells #[.int .i64 0, (.slice none 0 0), .int .i64 0] 37 (0, 0))) ∧ Aside0 (wc.heap[gb208]? = some (.cells #[.int .i64 a1_0, .int .i64 a1_1, (.slice A0_0 l0_0.length c0_0), (.slice A0_1 l0_1.length c0_1)] 72 (0, 0))) ∧ Aside0 (wc.heap[gb216]? = some (.cells #[.int .i64 t210, .int .i64 t211, .int .i64 t212, .int .i64 t213, .int .i64 t214] 73 (0, 0))) ∧ Aside0 (wc.heap[gb223]? = some (.cells #[.int .i64 t217, .int .i64 t218, .int .i64 t219, .int .i64 t220, .int .i64 t221] 73 (0, 0))) ∧ Aside0 (Below w.heap.size w wc))
  case first =>
   have H := HC7.out
   clear HC7
   by_cases c39 : t215 = true
   ·subst c39
    rw [if_pos rfl] at H
    have H' := Aside0.mk H
    clear H
    obtain ⟨hnb40, hnc40⟩ := nn_ NB216_205
    obtain ⟨hnb41, hnc41⟩ := nn_ NB216_206
    obtain ⟨hnb42, hnc42⟩ := nn_ NB216_207
    obtain ⟨hnb43, hnc43⟩ := nn_ NB216_208
    obtain ⟨hnb44, hnc44⟩ := nn_ NB216_223
    obtain ⟨hcz45_0, hcz45_1, hcz45_2, hcz45_3, hcz45_4, hfz45_0, hfz45_1, hfz45_2, hfz45_3, hfz45_4⟩ := e5_ BK216
    obtain ⟨hnb46, hnc46⟩ := nn_ NB223_205
    obtain ⟨hnb47, hnc47⟩ := nn_ NB223_206
    obtain ⟨hnb48, hnc48⟩ := nn_ NB223_207
    obtain ⟨hnb49, hnc49⟩ := nn_ NB223_208
    obtain ⟨hcz50_0, hcz50_1, hcz50_2, hcz50_3, hcz50_4, hfz50_0, hfz50_1, hfz50_2, hfz50_3, hfz50_4⟩ := e5_ BK223
    go_wp2
    go_meet
    case rel => exact ⟨_, ((!(t210 == t217) || (!(t211 == t218) || (!(t212 == t219) || (!(t213 == t220) || (!(t214 == t221))))))), eY, H', ⟨by first | omega | exact Nat.le_refl _⟩, ⟨by (with_reducible repeat (first | apply xN_ | apply xD_ | apply xA_)); refine xR_ ?_ NB205_223.out _; refine xR_ ?_ NB205_223.out _; refine xR_ ?_ NB205_223.out _; refine xR_ ?_ NB205_223.out _; refine xR_ ?_ NB205_223.out _; (with_reducible repeat (first | apply xN_ | apply xD_ | apply xA_)); exact BK205.out⟩, ⟨by (with_reducible repeat (first | apply xN_ | apply xD_ | apply xA_)); refine xR_ ?_ NB206_223.out _; refine xR_ ?_ NB206_223.out _; refine xR_ ?_ NB206_223.out _; refine xR_ ?_ NB206_223.out _; refine xR_ ?_ NB206_223.out _; (with_reducible repeat (first | apply xN_ | apply xD_ | apply xA_)); exact BK206.out⟩, ⟨by (with_reducible repeat (first | apply xN_ | apply xD_ | apply xA_)); refine xR_ ?_ NB207_223.out _; refine xR_ ?_ NB207_223.out _; refine xR_ ?_ NB207_223.out _; refine xR_ ?_ NB207_223.out _; refine xR_ ?_ NB207_223.out _; (with_reducible repeat (first | apply xN_ | apply xD_ | apply xA_)); exact BK207.out⟩, ⟨by (with_reducible repeat (first | apply xN_ | apply xD_ | apply xA_)); refine xR_ ?_ NB208_223.out _; refine xR_ ?_ NB208_223.out _; refine xR_ ?_ NB208_223.out _; refine xR_ ?_ NB208_223.out _; refine xR_ ?_ NB208_223.out _; (with_reducible repeat (first | apply xN_ | apply xD_ | apply xA_)); exact BK208.out⟩, ⟨by (with_reducible repeat (first | apply xN_ | apply xD_ | apply xA_)); refine xR_ ?_ NB216_223.out _; refine xR_ ?_ NB216_223.out _; refine xR_ ?_ NB216_223.out _; refine xR_ ?_ NB216_223.out _; refine xR_ ?_ NB216_223.out _; (with_reducible repeat (first | apply xN_ | apply xD_ | apply xA_)); exact BK216.out⟩, ⟨by (with_reducible repeat (first | apply xN_ | apply xD_ | apply xA_)); refine blk_put (cs := #[.int .i64 t217, .int .i64 t218, .int .i64 t219, .int .i64 t220, .int .i64 0]) ?_ 4 _ rfl; refine blk_put (cs := #[.int .i64 t217, .int .i64 t218, .int .i64 t219, .int .i64 0, .int .i64 0]) ?_ 3 _ rfl; refine blk_put (cs := #[.int .i64 t217, .int .i64 t218, .int .i64 0, .int .i64 0, .int .i64 0]) ?_ 2 _ rfl; refine blk_put (cs := #[.int .i64 t217, .int .i64 0, .int .i64 0, .int .i64 0, .int .i64 0]) ?_ 1 _ rfl; refine blk_put (cs := #[.int .i64 0, .int .i64 0, .int .i64 0, .int .i64 0, .int .i64 0]) ?_ 0 _ rfl; (with_reducible repeat (first | apply xN_ | apply xD_ | apply xA_)); exact BK223.out⟩, ⟨qH⟩⟩
   ·replace c39 := Bool.eq_false_iff.mpr c39
    subst c39
    rw [if_neg nF_] at H
    have H' := Aside0.mk H
    clear H
    go_wp2
    go_meet
    case rel => exact ⟨_, (true), eY, H', ⟨by first | omega | exact Nat.le_refl _⟩, ⟨by (with_reducible repeat (first | apply xN_ | apply xD_ | apply xA_)); refine xR_ ?_ NB205_223.out _; refine xR_ ?_ NB205_223.out _; refine xR_ ?_ NB205_223.out _; refine xR_ ?_ NB205_223.out _; refine xR_ ?_ NB205_223.out _; (with_reducible repeat (first | apply xN_ | apply xD_ | apply xA_)); exact BK205.out⟩, ⟨by (with_reducible repeat (first | apply xN_ | apply xD_ | apply xA_)); refine xR_ ?_ NB206_223.out _; refine xR_ ?_ NB206_223.out _; refine xR_ ?_ NB206_223.out _; refine xR_ ?_ NB206_223.out _; refine xR_ ?_ NB206_223.out _; (with_reducible repeat (first | apply xN_ | apply xD_ | apply xA_)); exact BK206.out⟩, ⟨by (with_reducible repeat (first | apply xN_ | apply xD_ | apply xA_)); refine xR_ ?_ NB207_223.out _; refine xR_ ?_ NB207_223.out _; refine xR_ ?_ NB207_223.out _; refine xR_ ?_ NB207_223.out _; refine xR_ ?_ NB207_223.out _; (with_reducible repeat (first | apply xN_ | apply xD_ | apply xA_)); exact BK207.out⟩, ⟨by (with_reducible repeat (first | apply xN_ | apply xD_ | apply xA_)); refine xR_ ?_ NB208_223.out _; refine xR_ ?_ NB208_223.out _; refine xR_ ?_ NB208_223.out _; refine xR_ ?_ NB208_223.out _; refine xR_ ?_ NB208_223.out _; (with_reducible repeat (first | apply xN_ | apply xD_ | apply xA_)); exact BK208.out⟩, ⟨by (with_reducible repeat (first | apply xN_ | apply xD_ | apply xA_)); refine xR_ ?_ NB216_223.out _; refine xR_ ?_ NB216_223.out _; refine xR_ ?_ NB216_223.out _; refine xR_ ?_ NB216_223.out _; refine xR_ ?_ NB216_223.out _; (with_reducible repeat (first | apply xN_ | apply xD_ | apply xA_)); exact BK216.out⟩, ⟨by (with_reducible repeat (first | apply xN_ | apply xD_ | apply xA_)); refine blk_put (cs := #[.int .i64 t217, .int .i64 t218, .int .i64 t219, .int .i64 t220, .int .i64 0]) ?_ 4 _ rfl; refine blk_put (cs := #[.int .i64 t217, .int .i64 t218, .int .i64 t219, .int .i64 0, .int .i64 0]) ?_ 3 _ rfl; refine blk_put (cs := #[.int .i64 t217, .int .i64 t218, .int .i64 0, .int .i64 0, .int .i64 0]) ?_ 2 _ rfl; refine blk_put (cs := #[.int .i64 t217, .int .i64 0, .int .i64 0, .int .i64 0, .int .i64 0]) ?_ 1 _ rfl; refine blk_put (cs := #[.int .i64 0, .int .i64 0, .int .i64 0, .int .i64 0, .int .i64 0]) ?_ 0 _ rfl; (with_reducible repeat (first | apply xN_ | apply xD_ | apply xA_)); exact BK223.out⟩, ⟨qH⟩⟩
  case rest =>
   clear HC7
   (try clear p2); (try clear c4); (try clear hcz13_0); (try clear hcz13_1); (try clear hcz15_0); (try clear hcz15_1); (try clear hcz20_0); (try clear hcz20_1); (try clear hcz20_2)
   (try clear hcz20_3); (try clear hcz22_0); (try clear hcz22_1); (try clear hcz22_2); (try clear hcz22_3); (try clear hcz23_0); (try clear hcz23_1); (try clear hcz30_0)
   (try clear hcz30_1); (try clear hcz30_2); (try clear hcz30_3); (try clear hcz30_4); (try clear hcz38_0); (try clear hcz38_1); (try clear hcz38_2); (try clear hcz38_3)
   (try clear hcz38_4); (try clear hfz13_0); (try clear hfz13_1); (try clear hfz15_0); (try clear hfz15_1); (try clear hfz20_0); (try clear hfz20_1); (try clear hfz20_2)
   (try clear hfz20_3); (try clear hfz22_0); (try clear hfz22_1); (try clear hfz22_2); (try clear hfz22_3); (try clear hfz23_0); (try clear hfz23_1); (try clear hfz30_0)
   (try clear hfz30_1); (try clear hfz30_2); (try clear hfz30_3); (try clear hfz30_4); (try clear hfz38_0); (try clear hfz38_1); (try clear hfz38_2); (try clear hfz38_3)
   (try clear hfz38_4)
   obtain ⟨kq, x41_6, rfl, HA, HJ6, BK205, BK206, BK207, BK208, BK216, BK223, HB⟩ := hcut
   cases kq with
   | zero => exact absurd HA.out (by simp [journal_Open.j0])
   | succ kj6 =>
    have H := HA.out
    clear HA
    simp only [journal_Open.j0] at H
    by_cases c51 : x41_6 = true
    ·subst c51
     rw [if_pos rfl] at H
     simp only [Option.some.injEq, Prod.mk.injEq] at H
     obtain ⟨rfl, rfl, rfl, rfl⟩ := H
     obtain ⟨hnb52, hnc52⟩ := nn_ NB207_205
     obtain ⟨hnb53, hnc53⟩ := nn_ NB207_206
     obtain ⟨hnb54, hnc54⟩ := nn_ NB207_208
     obtain ⟨hnb55, hnc55⟩ := nn_ NB207_216
     obtain ⟨hnb56, hnc56⟩ := nn_ NB207_223
     obtain ⟨hcz57_0, hcz57_1, hcz57_2, hfz57_0, hfz57_1, hfz57_2⟩ := e3_ BK207
     go_wp2
     refine bodyPost_ret (results_ct rfl _ _ gb207 37 #[.int .i64 0, .slice none 0 0, .int .i64 0] (0, 0) _ rfl (by (with_reducible repeat (first | apply xN_ | apply xD_ | apply xA_)); refine blk_put (cs := #[.int .i64 0, .slice none 0 0, .int .i64 0]) ?_ 2 _ rfl; refine blk_put (cs := #[.int .i64 0, .slice none 0 0, .int .i64 0]) ?_ 1 _ rfl; refine blk_put (cs := #[.int .i64 0, .slice none 0 0, .int .i64 0]) ?_ 0 _ rfl; (with_reducible repeat (first | apply xN_ | apply xD_ | apply xA_)); exact BK207.out) Try.underlying37 rfl (by kernel_rfl)) rfl ?_
     exact ⟨_, eX, by first | exact Kd.R_nil _ _ _ _ _ | exact Kd.N_nil _ _ _ _ _ | exact Kd.V_nil _ _ _ _ _ | exact Kd.Q_nil _ _ _ _ _ | exact Kd.S_nil _ _ _ _ _, qH⟩
    ·replace c51 := Bool.eq_false_iff.mpr c51
     subst c51
     rw [if_neg nF_] at H
     have H' := Aside0.mk H
     clear H
     obtain ⟨hnb58, hnc58⟩ := nn_ NB216_205
     obtain ⟨hnb59, hnc59⟩ := nn_ NB216_206
     obtain ⟨hnb60, hnc60⟩ := nn_ NB216_207
     obtain ⟨hnb61, hnc61⟩ := nn_ NB216_208
     obtain ⟨hnb62, hnc62⟩ := nn_ NB216_223
     obtain ⟨hcz63_0, hcz63_1, hcz63_2, hcz63_3, hcz63_4, hfz63_0, hfz63_1, hfz63_2, hfz63_3, hfz63_4⟩ := e5_ BK216
     obtain ⟨hnb64, hnc64⟩ := nn_ NB206_205
     obtain ⟨hnb65, hnc65⟩ := nn_ NB206_207
     obtain ⟨hnb66, hnc66⟩ := nn_ NB206_208
     obtain ⟨hnb67, hnc67⟩ := nn_ NB206_223
     obtain ⟨hcz68_0, hcz68_1, hfz68_0, hfz68_1⟩ := e2_ BK206
     go_wp2_with (first | ((with_reducible refine gate_dst (N := 11) rfl ?_); refine bE (N := 11) (cs := #[.int .i64 0, .slice none 0 0, .int .i64 0]) (t := 37) ?_; intro gb224 hg w69 hbox hb; have hz_ := zqA HB hb; replace hb := below_step hz_ hb; have BK224 := Aside0.mk hbox; have GE224 := zG HB hz_ hg; have NB205_224 := zN BK205 hz_ hg; have NB224_205 := zM BK205 hz_ hg; have NB206_224 := zN BK206 hz_ hg; have NB224_206 := zM BK206 hz_ hg; have NB207_224 := zN BK207 hz_ hg; have NB224_207 := zM BK207 hz_ hg; have NB208_224 := zN BK208 hz_ hg; have NB224_208 := zM BK208 hz_ hg; have NB216_224 := zN BK216 hz_ hg; have NB224_216 := zM BK216 hz_ hg; have NB223_224 := zN BK223 hz_ hg; have NB224_223 := zM BK223 hz_ hg; replace BK205 := zB BK205 hb; replace BK206 := zB BK206 hb; replace BK207 := zB BK207 hb; replace BK208 := zB BK208 hb; replace BK216 := zB BK216 hb; replace BK223 := zB BK223 hb; replace HB := zH HB hb; clear hz_; clear hb hbox hg; obtain ⟨hnb70, hnc70⟩ := nn_ NB224_205; obtain ⟨hnb71, hnc71⟩ := nn_ NB224_206; obtain ⟨hnb72, hnc72⟩ := nn_ NB224_207; obtain ⟨hnb73, hnc73⟩ := nn_ NB224_208; obtain ⟨hnb74, hnc74⟩ := nn_ NB224_216; obtain ⟨hnb75, hnc75⟩ := nn_ NB224_223; obtain ⟨hcz76_0, hcz76_1, hcz76_2, hfz76_0, hfz76_1, hfz76_2⟩ := e3_ BK224))
     go_loopg [] kj6 (fun kq w' => ∃ (x225001_2 : List ByteArray) (x225002_2 : Int) (u225001 : Value), Aside0 (journal_Open.l0 kq a1_0 a1_1 a1_0 a1_1 l0_0 l0_1 t211 x225001_2 x225002_2 = some (r1, r2, r3, r4)) ∧ Aside0 (kq ≤ kj6) ∧ Aside0 (Kd.R Kd.string 9 w' w.heap.size (fun _ => True) u225001 x225001_2) ∧ Aside0 (w'.heap[gb205]? = some (.cells #[(.slice A0_0 l0_0.length c0_0), (.slice A0_1 l0_1.length c0_1)] 25 (0, 0))) ∧ Aside0 (w'.heap[gb206]? = some (.cells #[.int .i64 a1_0, .int .i64 a1_1] 40 (0, 0))) ∧ Aside0 (w'.heap[gb207]? = some (.cells #[.int .i64 0, (.slice none 0 0), .int .i64 0] 37 (0, 0))) ∧ Aside0 (w'.heap[gb208]? = some (.cells #[.int .i64 a1_0, .int .i64 a1_1, (.slice A0_0 l0_0.length c0_0), (.slice A0_1 l0_1.length c0_1)] 72 (0, 0))) ∧ Aside0 (w'.heap[gb216]? = some (.cells #[.int .i64 t210, .int .i64 t211, .int .i64 t212, .int .i64 t213, .int .i64 t214] 73 (0, 0))) ∧ Aside0 (w'.heap[gb223]? = some (.cells #[.int .i64 t217, .int .i64 t218, .int .i64 t219, .int .i64 t220, .int .i64 t221] 73 (0, 0))) ∧ Aside0 (w'.heap[gb224]? = some (.cells #[.int .i64 t211, u225001, .int .i64 x225002_2] 37 (0, 0))) ∧ Aside0 (Below w.heap.size w w'))
     case atStart => exact ⟨(([] : List ByteArray)), (wrap64 (a1_0 + 1)), (.slice none 0 0), H', ⟨Nat.le_refl _⟩, ⟨by first | exact Kd.R_nil _ _ _ _ _ | exact Kd.N_nil _ _ _ _ _ | exact Kd.V_nil _ _ _ _ _ | exact Kd.Q_nil _ _ _ _ _ | exact Kd.S_nil _ _ _ _ _⟩, ⟨by (with_reducible repeat (first | apply xN_ | apply xD_ | apply xA_)); refine xR_ ?_ NB205_224.out _; refine xR_ ?_ NB205_224.out _; refine xR_ ?_ NB205_224.out _; (with_reducible repeat (first | apply xN_ | apply xD_ | apply xA_)); exact BK205.out⟩, ⟨by (with_reducible repeat (first | apply xN_ | apply xD_ | apply xA_)); refine xR_ ?_ NB206_224.out _; refine xR_ ?_ NB206_224.out _; refine xR_ ?_ NB206_224.out _; (with_reducible repeat (first | apply xN_ | apply xD_ | apply xA_)); exact BK206.out⟩, ⟨by (with_reducible repeat (first | apply xN_ | apply xD_ | apply xA_)); refine xR_ ?_ NB207_224.out _; refine xR_ ?_ NB207_224.out _; refine xR_ ?_ NB207_224.out _; (with_reducible repeat (first | apply xN_ | apply xD_ | apply xA_)); exact BK207.out⟩, ⟨by (with_reducible repeat (first | apply xN_ | apply xD_ | apply xA_)); refine xR_ ?_ NB208_224.out _; refine xR_ ?_ NB208_224.out _; refine xR_ ?_ NB208_224.out _; (with_reducible repeat (first | apply xN_ | apply xD_ | apply xA_)); exact BK208.out⟩, ⟨by (with_reducible repeat (first | apply xN_ | apply xD_ | apply xA_)); refine xR_ ?_ NB216_224.out _; refine xR_ ?_ NB216_224.out _; refine xR_ ?_ NB216_224.out _; (with_reducible repeat (first | apply xN_ | apply xD_ | apply xA_)); exact BK216.out⟩, ⟨by (with_reducible repeat (first | apply xN_ | apply xD_ | apply xA_)); refine xR_ ?_ NB223_224.out _; refine xR_ ?_ NB223_224.out _; refine xR_ ?_ NB223_224.out _; (with_reducible repeat (first | apply xN_ | apply xD_ | apply xA_)); exact BK223.out⟩, ⟨by (with_reducible repeat (first | apply xN_ | apply xD_ | apply xA_)); refine blk_put (cs := #[.int .i64 t211, .slice none 0 0, .int .i64 0]) ?_ 2 _ rfl; refine blk_put (cs := #[.int .i64 t211, .slice none 0 0, .int .i64 0]) ?_ 1 _ rfl; refine blk_put (cs := #[.int .i64 0, .slice none 0 0, .int .i64 0]) ?_ 0 _ rfl; (with_reducible repeat (first | apply xN_ | apply xD_ | apply xA_)); exact BK224.out⟩, ⟨qH⟩⟩
     case round =>
      clear H'
      (try clear p2); (try clear p6); (try clear c51); (try clear p64); (try clear hcz63_0); (try clear hcz63_1); (try clear hcz63_2); (try clear hcz63_3); (try clear hcz63_4)
      (try clear hcz68_0); (try clear hcz68_1); (try clear hcz76_0); (try clear hcz76_1); (try clear hcz76_2); (try clear hfz63_0); (try clear hfz63_1); (try clear hfz63_2)
      (try clear hfz63_3); (try clear hfz63_4); (try clear hfz68_0); (try clear hfz68_1); (try clear hfz76_0); (try clear hfz76_1); (try clear hfz76_2); (try clear p2)
      obtain ⟨x225001_2, x225002_2, u225001, HA, HK2, HO_225001, BK205, BK206, BK207, BK208, BK216, BK223, BK224, HB⟩ := hrel
      cases gk with
      | zero => exact absurd HA.out (by simp [journal_Open.l0])
      | succ k2 =>
       have H := HA.out
       clear HA
       simp only [journal_Open.l0] at H
       replace H := Option.bind_eq_some_iff.mp H
       obtain ⟨t225, A770, H⟩ := H
       try dsimp only at H
       have A77 := Aside0.mk A770
       clear A770
       by_cases c78 : x225002_2 = t225
       ·rw [if_pos c78] at H
        have c78b0 : (x225002_2 == t225) = true := beq_iff_eq.mpr c78
        have c78b1 : (x225002_2 != t225) = false := bne_eq_false_iff_eq.mpr c78
        clear c78
        simp only [Option.some.injEq, Prod.mk.injEq] at H
        obtain ⟨rfl, rfl, rfl, rfl⟩ := H
        try go_wp2
        replace HO_225001 := Aside0.mk (Kd.R_drew HO_225001.out)
        replace BK205 := Aside0.mk (xD_ BK205.out)
        replace BK206 := Aside0.mk (xD_ BK206.out)
        replace BK207 := Aside0.mk (xD_ BK207.out)
        replace BK208 := Aside0.mk (xD_ BK208.out)
        replace BK216 := Aside0.mk (xD_ BK216.out)
        replace BK223 := Aside0.mk (xD_ BK223.out)
        replace BK224 := Aside0.mk (xD_ BK224.out)
        replace HB := Aside0.mk (yD_ HB.out)
        refine start_ (n := 5) (S := fun w' => w'.cell? ⟨gb224, 0, none⟩ = some (.int .i64 t211) ∧ w'.cell? ⟨gb224, 1, none⟩ = some (u225001) ∧ w'.cell? ⟨gb224, 2, none⟩ = some (.int .i64 x225002_2) ∧ w'.cell? ⟨gb206, 0, none⟩ = some (.int .i64 a1_0) ∧ w'.cell? ⟨gb206, 1, none⟩ = some (.int .i64 a1_1)) (ds := []) #[F_,F_,F_,F_,F_] (by kernel_rfl) rfl rfl ⟨c0_ BK224, c1_ BK224, c2_ BK224, c0_ BK206, c1_ BK206⟩ (fun hHeld => ?_)
        generalize wr.drew = w79 at HO_225001 BK205 BK206 BK207 BK208 BK216 BK223 BK224 HB hHeld ⊢
        refine pure_ (i := 0) (N := some 49) (v := ?_) (a' := ?_) #[T_,F_,F_,F_,F_] rfl rfl (by kernel_rfl) (fun _ _ _ h => h) (Or.inl ⟨by rfl, ?_⟩) ?_ ?_
        rotate_left
        ·intro w'
         go_simp
         with_reducible rfl
        rotate_left
        ·simp only [Act.put, List.setIfInBounds_toArray, List.set_cons_zero, List.set_cons_succ, i64_w, i32_w]
         rfl
        refine take_ (i := 1) (N := some 50) (v := ?_) (a' := ?_) #[T_,T_,F_,F_,F_] rfl rfl (by kernel_rfl) (fun _ _ _ h => h) (Or.inl ⟨by rfl, ?_⟩) hHeld ?_ ?_
        rotate_left
        ·rintro w' ⟨s0, s1, s2, s3, s4⟩
         go_simp
         with_reducible rfl
        rotate_left
        ·simp only [Act.put, List.setIfInBounds_toArray, List.set_cons_zero, List.set_cons_succ, i64_w, i32_w]
         rfl
        refine take_ (i := 2) (N := some 51) (v := ?_) (a' := ?_) #[T_,T_,T_,F_,F_] rfl rfl (by kernel_rfl) (fun _ _ _ h => h) (Or.inl ⟨by rfl, ?_⟩) hHeld ?_ ?_
        rotate_left
        ·rintro w' ⟨s0, s1, s2, s3, s4⟩
         go_simp
         with_reducible rfl
        rotate_left
        ·simp only [Act.put, List.setIfInBounds_toArray, List.set_cons_zero, List.set_cons_succ, i64_w, i32_w]
         rfl
        refine one_ (i := 3) (N := some 52) #[T_,T_,T_,T_,F_] rfl rfl (by kernel_rfl) (by decide) (fun K hK => ?_)
        refine gO Try.func35 #[.agg #[.int .i64 a1_0, .int .i64 a1_1]] ?_
        with_reducible refine (journal_Region_end.calls a1_0 a1_1 t225 _ A77.out).mono ?_
        rintro e w80 ⟨rfl, hb⟩
        refine ⟨_, rfl, ?_⟩
        have hz_ := zqA HB hb
        replace hb := below_step hz_ hb
        replace HO_225001 := zR HO_225001 hb
        replace BK205 := zB BK205 hb
        replace BK206 := zB BK206 hb
        replace BK207 := zB BK207 hb
        replace BK208 := zB BK208 hb
        replace BK216 := zB BK216 hb
        replace BK223 := zB BK223 hb
        replace BK224 := zB BK224 hb
        replace HB := zH HB hb
        clear hz_
        (try clear hb)
        (try clear hb2)
        (try clear hk)
        (try clear hi)
        refine hK.out _ _ ⟨c0_ BK224, c1_ BK224, c2_ BK224, c0_ BK206, c1_ BK206⟩ (fun hHeld => ?_)
        clear hK K
        refine nS (some 52) ?_
        refine pure_ (i := 4) (N := some 53) (v := ?_) (a' := ?_) #[T_,T_,T_,T_,T_] rfl rfl (by kernel_rfl) (fun _ _ _ h => h) (Or.inl ⟨by rfl, ?_⟩) ?_ ?_
        rotate_left
        ·intro w'
         go_simp
         with_reducible rfl
        rotate_left
        ·simp only [Act.put, List.setIfInBounds_toArray, List.set_cons_zero, List.set_cons_succ, i64_w, i32_w]
         rfl
        refine done_ (by kernel_rfl) ?_
        obtain ⟨hnb81, hnc81⟩ := nn_ NB224_205
        obtain ⟨hnb82, hnc82⟩ := nn_ NB224_206
        obtain ⟨hnb83, hnc83⟩ := nn_ NB224_207
        obtain ⟨hnb84, hnc84⟩ := nn_ NB224_208
        obtain ⟨hnb85, hnc85⟩ := nn_ NB224_216
        obtain ⟨hnb86, hnc86⟩ := nn_ NB224_223
        obtain ⟨hcz87_0, hcz87_1, hcz87_2, hfz87_0, hfz87_1, hfz87_2⟩ := e3_ BK224
        obtain ⟨hnb88, hnc88⟩ := nn_ NB207_205
        obtain ⟨hnb89, hnc89⟩ := nn_ NB207_206
        obtain ⟨hnb90, hnc90⟩ := nn_ NB207_208
        obtain ⟨hnb91, hnc91⟩ := nn_ NB207_216
        obtain ⟨hnb92, hnc92⟩ := nn_ NB207_223
        obtain ⟨hcz93_0, hcz93_1, hcz93_2, hfz93_0, hfz93_1, hfz93_2⟩ := e3_ BK207
        obtain ⟨Ao94, co94, eo94⟩ := Kd.R_slice HO_225001.out
        subst eo94
        try go_wp2
        refine bodyPost_ret (results_ct rfl _ _ gb207 37 #[.int .i64 t211, .slice Ao94 x225001_2.length co94, .int .i64 x225002_2] (0, 0) _ rfl (by (with_reducible repeat (first | apply xN_ | apply xD_ | apply xA_)); refine blk_put (cs := #[.int .i64 t211, .slice Ao94 x225001_2.length co94, .int .i64 0]) ?_ 2 _ rfl; refine blk_put (cs := #[.int .i64 t211, .slice none 0 0, .int .i64 0]) ?_ 1 _ rfl; refine blk_put (cs := #[.int .i64 0, .slice none 0 0, .int .i64 0]) ?_ 0 _ rfl; (with_reducible repeat (first | apply xN_ | apply xD_ | apply xA_)); exact BK207.out) Try.underlying37 rfl (by kernel_rfl)) rfl ?_
        exact ⟨_, eX, by (with_reducible repeat (first | apply Kd.R_alloc | apply Kd.R_drewN | apply Kd.R_drew)); exact Kd.R_mono (rG3 HO_225001.out BK207) (fun _ hk => trivial), qH⟩
       ·rw [if_neg c78] at H
        have c78b0 : (x225002_2 == t225) = false := beq_eq_false_iff_ne.mpr c78
        have c78b1 : (x225002_2 != t225) = true := bne_iff_ne.mpr c78
        replace H := Option.bind_eq_some_iff.mp H
        obtain ⟨⟨t226, t227, t228⟩, A950, H⟩ := H
        try dsimp only at H
        have A95 := Aside0.mk A950
        clear A950
        by_cases c96 : t228 = true
        ·subst c96
         rw [if_pos rfl] at H
         by_cases c97 : x225001_2.length < 8796093022208
         ·rw [if_pos c97] at H
          have LMc97 := Aside0.mk c97
          clear c97
          obtain ⟨y229, hy229⟩ : ∃ y_ : List ByteArray, y_ = (x225001_2 ++ [t226]) := ⟨_, rfl⟩
          replace H : (journal_Open.l0 k2 a1_0 a1_1 a1_0 a1_1 l0_0 l0_1 t211 y229 t227) = some (r1, r2, r3, r4) := by first | (rw [hy229]; with_reducible exact H) | (have H2_ := (Option.bind_some _ _).symm.trans H; rw [hy229]; with_reducible exact H2_) | (have H2_ := (Option.bind_some _ _).symm.trans H; with_reducible exact H2_) | with_reducible exact H | (rw [hy229]; exact H) | exact H
          have Ny229 := Aside0.mk hy229
          clear hy229
          have H' := Aside0.mk H
          clear H
          try go_wp2
          replace HO_225001 := Aside0.mk (Kd.R_drew HO_225001.out)
          replace BK205 := Aside0.mk (xD_ BK205.out)
          replace BK206 := Aside0.mk (xD_ BK206.out)
          replace BK207 := Aside0.mk (xD_ BK207.out)
          replace BK208 := Aside0.mk (xD_ BK208.out)
          replace BK216 := Aside0.mk (xD_ BK216.out)
          replace BK223 := Aside0.mk (xD_ BK223.out)
          replace BK224 := Aside0.mk (xD_ BK224.out)
          replace HB := Aside0.mk (yD_ HB.out)
          refine start_ (n := 5) (S := fun w' => w'.cell? ⟨gb224, 0, none⟩ = some (.int .i64 t211) ∧ w'.cell? ⟨gb224, 1, none⟩ = some (u225001) ∧ w'.cell? ⟨gb224, 2, none⟩ = some (.int .i64 x225002_2) ∧ w'.cell? ⟨gb206, 0, none⟩ = some (.int .i64 a1_0) ∧ w'.cell? ⟨gb206, 1, none⟩ = some (.int .i64 a1_1)) (ds := []) #[F_,F_,F_,F_,F_] (by kernel_rfl) rfl rfl ⟨c0_ BK224, c1_ BK224, c2_ BK224, c0_ BK206, c1_ BK206⟩ (fun hHeld => ?_)
          generalize wr.drew = w98 at HO_225001 BK205 BK206 BK207 BK208 BK216 BK223 BK224 HB hHeld ⊢
          refine pure_ (i := 0) (N := some 49) (v := ?_) (a' := ?_) #[T_,F_,F_,F_,F_] rfl rfl (by kernel_rfl) (fun _ _ _ h => h) (Or.inl ⟨by rfl, ?_⟩) ?_ ?_
          rotate_left
          ·intro w'
           go_simp
           with_reducible rfl
          rotate_left
          ·simp only [Act.put, List.setIfInBounds_toArray, List.set_cons_zero, List.set_cons_succ, i64_w, i32_w]
           rfl
          refine take_ (i := 1) (N := some 50) (v := ?_) (a' := ?_) #[T_,T_,F_,F_,F_] rfl rfl (by kernel_rfl) (fun _ _ _ h => h) (Or.inl ⟨by rfl, ?_⟩) hHeld ?_ ?_
          rotate_left
          ·rintro w' ⟨s0, s1, s2, s3, s4⟩
           go_simp
           with_reducible rfl
          rotate_left
          ·simp only [Act.put, List.setIfInBounds_toArray, List.set_cons_zero, List.set_cons_succ, i64_w, i32_w]
           rfl
          refine take_ (i := 2) (N := some 51) (v := ?_) (a' := ?_) #[T_,T_,T_,F_,F_] rfl rfl (by kernel_rfl) (fun _ _ _ h => h) (Or.inl ⟨by rfl, ?_⟩) hHeld ?_ ?_
          rotate_left
          ·rintro w' ⟨s0, s1, s2, s3, s4⟩
           go_simp
           with_reducible rfl
          rotate_left
          ·simp only [Act.put, List.setIfInBounds_toArray, List.set_cons_zero, List.set_cons_succ, i64_w, i32_w]
           rfl
          refine one_ (i := 3) (N := some 52) #[T_,T_,T_,T_,F_] rfl rfl (by kernel_rfl) (by decide) (fun K hK => ?_)
          refine gO Try.func35 #[.agg #[.int .i64 a1_0, .int .i64 a1_1]] ?_
          with_reducible refine (journal_Region_end.calls a1_0 a1_1 t225 _ A77.out).mono ?_
          rintro e w99 ⟨rfl, hb⟩
          refine ⟨_, rfl, ?_⟩
          have hz_ := zqA HB hb
          replace hb := below_step hz_ hb
          replace HO_225001 := zR HO_225001 hb
          replace BK205 := zB BK205 hb
          replace BK206 := zB BK206 hb
          replace BK207 := zB BK207 hb
          replace BK208 := zB BK208 hb
          replace BK216 := zB BK216 hb
          replace BK223 := zB BK223 hb
          replace BK224 := zB BK224 hb
          replace HB := zH HB hb
          clear hz_
          (try clear hb)
          (try clear hb2)
          (try clear hk)
          (try clear hi)
          refine hK.out _ _ ⟨c0_ BK224, c1_ BK224, c2_ BK224, c0_ BK206, c1_ BK206⟩ (fun hHeld => ?_)
          clear hK K
          refine nS (some 52) ?_
          refine pure_ (i := 4) (N := some 53) (v := ?_) (a' := ?_) #[T_,T_,T_,T_,T_] rfl rfl (by kernel_rfl) (fun _ _ _ h => h) (Or.inl ⟨by rfl, ?_⟩) ?_ ?_
          rotate_left
          ·intro w'
           go_simp
           with_reducible rfl
          rotate_left
          ·simp only [Act.put, List.setIfInBounds_toArray, List.set_cons_zero, List.set_cons_succ, i64_w, i32_w]
           rfl
          refine done_ (by kernel_rfl) ?_
          obtain ⟨hnb100, hnc100⟩ := nn_ NB208_205
          obtain ⟨hnb101, hnc101⟩ := nn_ NB208_206
          obtain ⟨hnb102, hnc102⟩ := nn_ NB208_207
          obtain ⟨hnb103, hnc103⟩ := nn_ NB208_216
          obtain ⟨hnb104, hnc104⟩ := nn_ NB208_223
          obtain ⟨hnb105, hnc105⟩ := nn_ NB208_224
          obtain ⟨hcz106_0, hcz106_1, hcz106_2, hcz106_3, hfz106_0, hfz106_1, hfz106_2, hfz106_3⟩ := e4_ BK208
          obtain ⟨hnb107, hnc107⟩ := nn_ NB224_205
          obtain ⟨hnb108, hnc108⟩ := nn_ NB224_206
          obtain ⟨hnb109, hnc109⟩ := nn_ NB224_207
          obtain ⟨hnb110, hnc110⟩ := nn_ NB224_216
          obtain ⟨hnb111, hnc111⟩ := nn_ NB224_223
          obtain ⟨hcz112_0, hcz112_1, hcz112_2, hfz112_0, hfz112_1, hfz112_2⟩ := e3_ BK224
          obtain ⟨Ao113, co113, eo113⟩ := Kd.R_slice HO_225001.out
          subst eo113
          try go_wp2_with (first | ((with_reducible refine gate_callee (f := 36) rfl ?_); refine gL (some 63) Try.func36 #[.agg #[.int .i64 a1_0, .int .i64 a1_1, .slice A0_0 l0_0.length c0_0, .slice A0_1 l0_1.length c0_1], .int .i64 x225002_2, .int .i64 t211, .int .i64 (x225001_2.length : Int)] ?_; (with_reducible refine (journal_place_record.calls k2 a1_0 a1_1 _ _ l0_0 _ _ l0_1 x225002_2 t211 (x225001_2.length : Int) t226 t227 true _ ?side1 ?side2 ?side3 ?side4 A95.out).mono ?_); (case side1 => exact qC HR0_0); (case side2 => exact HC0_0.out); (case side3 => exact qC HR0_1); (case side4 => exact HC0_1.out); rintro e w114 ⟨rfl, hb⟩; refine ⟨_, rfl, ?_⟩; have hz_ := zqA HB hb; replace hb := below_step hz_ hb; replace HO_225001 := zR HO_225001 hb; replace BK205 := zB BK205 hb; replace BK206 := zB BK206 hb; replace BK207 := zB BK207 hb; replace BK208 := zB BK208 hb; replace BK216 := zB BK216 hb; replace BK223 := zB BK223 hb; replace BK224 := zB BK224 hb; replace HB := zH HB hb; clear hz_; (try clear hb); obtain ⟨hcz115_0, hcz115_1, hcz115_2, hfz115_0, hfz115_1, hfz115_2⟩ := e3_ BK224) | ((with_reducible refine gate_builtin (b := .append) (xs := #[.tmp 70, .tmp 72]) rfl ?_); at_builtin; refine Kd.R_append Kd.string (w0 := w) w.heap.size rfl (.tmp 70) (.tmp 72) 22 9 (.string ⟨#[]⟩) 16 rfl Try.underlying22 info9 rfl (by decide) (by omega) (.slice Ao113 x225001_2.length co113) x225001_2 t226 [.string t226] (fun _ => True) (fun _ => False) rfl rfl ?aP (fun _ hk => hk.elim) ?aF ?aO ?aB ?aS ?aL ?_; (case aP => exact rfl); (case aB => exact qH); (case aF => exact (fun _ _ => trivial)); (case aO => exact (qR HO_225001.out)); (case aS => exact (below_size qH)); (case aL => have := LMc97.out; omega); intro v230 w116 ho hb hg hat; rw [← Ny229.out] at ho; replace BK205 := Aside0.mk (blk_grown (g := gb205) (o := .cells #[.slice A0_0 l0_0.length c0_0, .slice A0_1 l0_1.length c0_1] 25 (0, 0)) (qB BK205) hg (Kd.R_ne HO_225001.out BK205.out (by decide))); replace BK206 := Aside0.mk (blk_grown (g := gb206) (o := .cells #[.int .i64 a1_0, .int .i64 a1_1] 40 (0, 0)) (qB BK206) hg (Kd.R_ne HO_225001.out BK206.out (by decide))); replace BK207 := Aside0.mk (blk_grown (g := gb207) (o := .cells #[.int .i64 0, .slice none 0 0, .int .i64 0] 37 (0, 0)) (qB BK207) hg (Kd.R_ne HO_225001.out BK207.out (by decide))); replace BK208 := Aside0.mk (blk_grown (g := gb208) (o := .cells #[.int .i64 a1_0, .int .i64 a1_1, .slice A0_0 l0_0.length c0_0, .slice A0_1 l0_1.length c0_1] 72 (0, 0)) (qB BK208) hg (Kd.R_ne HO_225001.out BK208.out (by decide))); replace BK216 := Aside0.mk (blk_grown (g := gb216) (o := .cells #[.int .i64 t210, .int .i64 t211, .int .i64 t212, .int .i64 t213, .int .i64 t214] 73 (0, 0)) (qB BK216) hg (Kd.R_ne HO_225001.out BK216.out (by decide))); replace BK223 := Aside0.mk (blk_grown (g := gb223) (o := .cells #[.int .i64 t217, .int .i64 t218, .int .i64 t219, .int .i64 t220, .int .i64 t221] 73 (0, 0)) (qB BK223) hg (Kd.R_ne HO_225001.out BK223.out (by decide))); replace BK224 := Aside0.mk (blk_grown (g := gb224) (o := .cells #[.int .i64 t211, .slice Ao113 x225001_2.length co113, .int .i64 x225002_2] 37 (0, 0)) (qB BK224) hg (Kd.R_ne HO_225001.out BK224.out (by decide))); replace HB := Aside0.mk (hb); have HO231 := Aside0.mk (ho); clear HO_225001; clear ho hb hg hat; obtain ⟨Ao117, co117, eo117⟩ := Kd.R_slice HO231.out; subst eo117; obtain ⟨hcz118_0, hcz118_1, hcz118_2, hfz118_0, hfz118_1, hfz118_2⟩ := e3_ BK224))
          go_roundg k2
          case measure => have := HJ6.out; have := HK2.out; omega
          case rel => exact ⟨(y229), (t227), (.slice Ao117 y229.length co117), H', ⟨by have := HJ6.out; have := HK2.out; omega⟩, ⟨by (with_reducible repeat (first | apply Kd.R_alloc | apply Kd.R_drewN | apply Kd.R_drew)); exact Kd.R_mono (Kd.R_far (p := ⟨gb224, 2, none⟩) (Kd.R_far (p := ⟨gb224, 1, none⟩) (Kd.R_types HO231.out BK224.out (by decide)) (fun _ hk => hk.2) (.slice Ao117 y229.length co117)) (fun _ hk => hk.2) (.int .i64 t227)) (fun _ hk => trivial)⟩, ⟨by (with_reducible repeat (first | apply xN_ | apply xD_ | apply xA_)); refine xR_ ?_ NB205_224.out _; refine xR_ ?_ NB205_224.out _; (with_reducible repeat (first | apply xN_ | apply xD_ | apply xA_)); exact BK205.out⟩, ⟨by (with_reducible repeat (first | apply xN_ | apply xD_ | apply xA_)); refine xR_ ?_ NB206_224.out _; refine xR_ ?_ NB206_224.out _; (with_reducible repeat (first | apply xN_ | apply xD_ | apply xA_)); exact BK206.out⟩, ⟨by (with_reducible repeat (first | apply xN_ | apply xD_ | apply xA_)); refine xR_ ?_ NB207_224.out _; refine xR_ ?_ NB207_224.out _; (with_reducible repeat (first | apply xN_ | apply xD_ | apply xA_)); exact BK207.out⟩, ⟨by (with_reducible repeat (first | apply xN_ | apply xD_ | apply xA_)); refine xR_ ?_ NB208_224.out _; refine xR_ ?_ NB208_224.out _; (with_reducible repeat (first | apply xN_ | apply xD_ | apply xA_)); exact BK208.out⟩, ⟨by (with_reducible repeat (first | apply xN_ | apply xD_ | apply xA_)); refine xR_ ?_ NB216_224.out _; refine xR_ ?_ NB216_224.out _; (with_reducible repeat (first | apply xN_ | apply xD_ | apply xA_)); exact BK216.out⟩, ⟨by (with_reducible repeat (first | apply xN_ | apply xD_ | apply xA_)); refine xR_ ?_ NB223_224.out _; refine xR_ ?_ NB223_224.out _; (with_reducible repeat (first | apply xN_ | apply xD_ | apply xA_)); exact BK223.out⟩, ⟨by (with_reducible repeat (first | apply xN_ | apply xD_ | apply xA_)); refine blk_put (cs := #[.int .i64 t211, .slice Ao117 y229.length co117, .int .i64 x225002_2]) ?_ 2 _ rfl; refine blk_put (cs := #[.int .i64 t211, .slice Ao113 x225001_2.length co113, .int .i64 x225002_2]) ?_ 1 _ rfl; (with_reducible repeat (first | apply xN_ | apply xD_ | apply xA_)); exact BK224.out⟩, ⟨qH⟩⟩
         ·rw [if_neg c97] at H
          exact absurd H (by simp)
        ·replace c96 := Bool.eq_false_iff.mpr c96
         subst c96
         rw [if_neg nF_] at H
         simp only [Option.some.injEq, Prod.mk.injEq] at H
         obtain ⟨rfl, rfl, rfl, rfl⟩ := H
         try go_wp2
         replace HO_225001 := Aside0.mk (Kd.R_drew HO_225001.out)
         replace BK205 := Aside0.mk (xD_ BK205.out)
         replace BK206 := Aside0.mk (xD_ BK206.out)
         replace BK207 := Aside0.mk (xD_ BK207.out)
         replace BK208 := Aside0.mk (xD_ BK208.out)
         replace BK216 := Aside0.mk (xD_ BK216.out)
         replace BK223 := Aside0.mk (xD_ BK223.out)
         replace BK224 := Aside0.mk (xD_ BK224.out)
         replace HB := Aside0.mk (yD_ HB.out)
         refine start_ (n := 5) (S := fun w' => w'.cell? ⟨gb224, 0, none⟩ = some (.int .i64 t211) ∧ w'.cell? ⟨gb224, 1, none⟩ = some (u225001) ∧ w'.cell? ⟨gb224, 2, none⟩ = some (.int .i64 x225002_2) ∧ w'.cell? ⟨gb206, 0, none⟩ = some (.int .i64 a1_0) ∧ w'.cell? ⟨gb206, 1, none⟩ = some (.int .i64 a1_1)) (ds := []) #[F_,F_,F_,F_,F_] (by kernel_rfl) rfl rfl ⟨c0_ BK224, c1_ BK224, c2_ BK224, c0_ BK206, c1_ BK206⟩ (fun hHeld => ?_)
         generalize wr.drew = w119 at HO_225001 BK205 BK206 BK207 BK208 BK216 BK223 BK224 HB hHeld ⊢
         refine pure_ (i := 0) (N := some 49) (v := ?_) (a' := ?_) #[T_,F_,F_,F_,F_] rfl rfl (by kernel_rfl) (fun _ _ _ h => h) (Or.inl ⟨by rfl, ?_⟩) ?_ ?_
         rotate_left
         ·intro w'
          go_simp
          with_reducible rfl
         rotate_left
         ·simp only [Act.put, List.setIfInBounds_toArray, List.set_cons_zero, List.set_cons_succ, i64_w, i32_w]
          rfl
         refine take_ (i := 1) (N := some 50) (v := ?_) (a' := ?_) #[T_,T_,F_,F_,F_] rfl rfl (by kernel_rfl) (fun _ _ _ h => h) (Or.inl ⟨by rfl, ?_⟩) hHeld ?_ ?_
         rotate_left
         ·rintro w' ⟨s0, s1, s2, s3, s4⟩
          go_simp
          with_reducible rfl
         rotate_left
         ·simp only [Act.put, List.setIfInBounds_toArray, List.set_cons_zero, List.set_cons_succ, i64_w, i32_w]
          rfl
         refine take_ (i := 2) (N := some 51) (v := ?_) (a' := ?_) #[T_,T_,T_,F_,F_] rfl rfl (by kernel_rfl) (fun _ _ _ h => h) (Or.inl ⟨by rfl, ?_⟩) hHeld ?_ ?_
         rotate_left
         ·rintro w' ⟨s0, s1, s2, s3, s4⟩
          go_simp
          with_reducible rfl
         rotate_left
         ·simp only [Act.put, List.setIfInBounds_toArray, List.set_cons_zero, List.set_cons_succ, i64_w, i32_w]
          rfl
         refine one_ (i := 3) (N := some 52) #[T_,T_,T_,T_,F_] rfl rfl (by kernel_rfl) (by decide) (fun K hK => ?_)
         refine gO Try.func35 #[.agg #[.int .i64 a1_0, .int .i64 a1_1]] ?_
         with_reducible refine (journal_Region_end.calls a1_0 a1_1 t225 _ A77.out).mono ?_
         rintro e w120 ⟨rfl, hb⟩
         refine ⟨_, rfl, ?_⟩
         have hz_ := zqA HB hb
         replace hb := below_step hz_ hb
         replace HO_225001 := zR HO_225001 hb
         replace BK205 := zB BK205 hb
         replace BK206 := zB BK206 hb
         replace BK207 := zB BK207 hb
         replace BK208 := zB BK208 hb
         replace BK216 := zB BK216 hb
         replace BK223 := zB BK223 hb
         replace BK224 := zB BK224 hb
         replace HB := zH HB hb
         clear hz_
         (try clear hb)
         (try clear hb2)
         (try clear hk)
         (try clear hi)
         refine hK.out _ _ ⟨c0_ BK224, c1_ BK224, c2_ BK224, c0_ BK206, c1_ BK206⟩ (fun hHeld => ?_)
         clear hK K
         refine nS (some 52) ?_
         refine pure_ (i := 4) (N := some 53) (v := ?_) (a' := ?_) #[T_,T_,T_,T_,T_] rfl rfl (by kernel_rfl) (fun _ _ _ h => h) (Or.inl ⟨by rfl, ?_⟩) ?_ ?_
         rotate_left
         ·intro w'
          go_simp
          with_reducible rfl
         rotate_left
         ·simp only [Act.put, List.setIfInBounds_toArray, List.set_cons_zero, List.set_cons_succ, i64_w, i32_w]
          rfl
         refine done_ (by kernel_rfl) ?_
         obtain ⟨hnb121, hnc121⟩ := nn_ NB208_205
         obtain ⟨hnb122, hnc122⟩ := nn_ NB208_206
         obtain ⟨hnb123, hnc123⟩ := nn_ NB208_207
         obtain ⟨hnb124, hnc124⟩ := nn_ NB208_216
         obtain ⟨hnb125, hnc125⟩ := nn_ NB208_223
         obtain ⟨hnb126, hnc126⟩ := nn_ NB208_224
         obtain ⟨hcz127_0, hcz127_1, hcz127_2, hcz127_3, hfz127_0, hfz127_1, hfz127_2, hfz127_3⟩ := e4_ BK208
         obtain ⟨hnb128, hnc128⟩ := nn_ NB224_205
         obtain ⟨hnb129, hnc129⟩ := nn_ NB224_206
         obtain ⟨hnb130, hnc130⟩ := nn_ NB224_207
         obtain ⟨hnb131, hnc131⟩ := nn_ NB224_216
         obtain ⟨hnb132, hnc132⟩ := nn_ NB224_223
         obtain ⟨hcz133_0, hcz133_1, hcz133_2, hfz133_0, hfz133_1, hfz133_2⟩ := e3_ BK224
         obtain ⟨Ao134, co134, eo134⟩ := Kd.R_slice HO_225001.out
         subst eo134
         try go_wp2_with (first | ((with_reducible refine gate_callee (f := 36) rfl ?_); refine gL (some 63) Try.func36 #[.agg #[.int .i64 a1_0, .int .i64 a1_1, .slice A0_0 l0_0.length c0_0, .slice A0_1 l0_1.length c0_1], .int .i64 x225002_2, .int .i64 t211, .int .i64 (x225001_2.length : Int)] ?_; (with_reducible refine (journal_place_record.calls k2 a1_0 a1_1 _ _ l0_0 _ _ l0_1 x225002_2 t211 (x225001_2.length : Int) t226 t227 false _ ?side1 ?side2 ?side3 ?side4 A95.out).mono ?_); (case side1 => exact qC HR0_0); (case side2 => exact HC0_0.out); (case side3 => exact qC HR0_1); (case side4 => exact HC0_1.out); rintro e w135 ⟨rfl, hb⟩; refine ⟨_, rfl, ?_⟩; have hz_ := zqA HB hb; replace hb := below_step hz_ hb; replace HO_225001 := zR HO_225001 hb; replace BK205 := zB BK205 hb; replace BK206 := zB BK206 hb; replace BK207 := zB BK207 hb; replace BK208 := zB BK208 hb; replace BK216 := zB BK216 hb; replace BK223 := zB BK223 hb; replace BK224 := zB BK224 hb; replace HB := zH HB hb; clear hz_; (try clear hb); obtain ⟨hcz136_0, hcz136_1, hcz136_2, hfz136_0, hfz136_1, hfz136_2⟩ := e3_ BK224; obtain ⟨hnb137, hnc137⟩ := nn_ NB207_205; obtain ⟨hnb138, hnc138⟩ := nn_ NB207_206; obtain ⟨hnb139, hnc139⟩ := nn_ NB207_216; obtain ⟨hnb140, hnc140⟩ := nn_ NB207_223; obtain ⟨hcz141_0, hcz141_1, hcz141_2, hfz141_0, hfz141_1, hfz141_2⟩ := e3_ BK207))
         refine bodyPost_ret (results_ct rfl _ _ gb207 37 #[.int .i64 t211, .slice Ao134 x225001_2.length co134, .int .i64 x225002_2] (0, 0) _ rfl (by (with_reducible repeat (first | apply xN_ | apply xD_ | apply xA_)); refine blk_put (cs := #[.int .i64 t211, .slice Ao134 x225001_2.length co134, .int .i64 0]) ?_ 2 _ rfl; refine blk_put (cs := #[.int .i64 t211, .slice none 0 0, .int .i64 0]) ?_ 1 _ rfl; refine blk_put (cs := #[.int .i64 0, .slice none 0 0, .int .i64 0]) ?_ 0 _ rfl; (with_reducible repeat (first | apply xN_ | apply xD_ | apply xA_)); exact BK207.out) Try.underlying37 rfl (by kernel_rfl)) rfl ?_
         exact ⟨_, eX, by (with_reducible repeat (first | apply Kd.R_alloc | apply Kd.R_drewN | apply Kd.R_drew)); exact Kd.R_mono (rG3 HO_225001.out BK207) (fun _ hk => trivial), qH⟩
 ·replace c4 := Bool.eq_false_iff.mpr c4
  subst c4
  rw [if_neg nF_] at H
  simp only [Option.some.injEq, Prod.mk.injEq] at H
  obtain ⟨rfl, rfl, rfl, rfl⟩ := H
  go_enter Try.func11, Try.ntmps11
  go_wp2_with (first | ((with_reducible refine gate_dst (N := 2) rfl ?_); refine bE (N := 2) (cs := #[.slice A0_0 l0_0.length c0_0, .slice A0_1 l0_1.length c0_1]) (t := 25) ?_; intro gb205 hg w142 hbox hb; have hz_ := zqA HB hb; replace hb := below_step hz_ hb; have BK205 := Aside0.mk hbox; have GE205 := zG HB hz_ hg; replace HB := zH HB hb; clear hz_; clear hb hbox hg) | ((with_reducible refine gate_dst (N := 3) rfl ?_); refine bE (N := 3) (cs := #[.int .i64 a1_0, .int .i64 a1_1]) (t := 40) ?_; intro gb206 hg w143 hbox hb; have hz_ := zqA HB hb; replace hb := below_step hz_ hb; have BK206 := Aside0.mk hbox; have GE206 := zG HB hz_ hg; have NB205_206 := zN BK205 hz_ hg; have NB206_205 := zM BK205 hz_ hg; replace BK205 := zB BK205 hb; replace HB := zH HB hb; clear hz_; clear hb hbox hg) | ((with_reducible refine gate_dst (N := 4) rfl ?_); refine bE (N := 4) (cs := #[.int .i64 0, .slice none 0 0, .int .i64 0]) (t := 37) ?_; intro gb207 hg w144 hbox hb; have hz_ := zqA HB hb; replace hb := below_step hz_ hb; have BK207 := Aside0.mk hbox; have GE207 := zG HB hz_ hg; have NB205_207 := zN BK205 hz_ hg; have NB207_205 := zM BK205 hz_ hg; have NB206_207 := zN BK206 hz_ hg; have NB207_206 := zM BK206 hz_ hg; replace BK205 := zB BK205 hb; replace BK206 := zB BK206 hb; replace HB := zH HB hb; clear hz_; clear hb hbox hg; obtain ⟨hnb145, hnc145⟩ := nn_ NB206_205; obtain ⟨hnb146, hnc146⟩ := nn_ NB206_207; obtain ⟨hcz147_0, hcz147_1, hfz147_0, hfz147_1⟩ := e2_ BK206; obtain ⟨hnb148, hnc148⟩ := nn_ NB205_207; obtain ⟨hcz149_0, hcz149_1, hfz149_0, hfz149_1⟩ := e2_ BK205) | ((with_reducible refine gate_dst (N := 6) rfl ?_); refine bE (N := 6) (cs := #[.int .i64 0, .int .i64 0, .slice none 0 0, .slice none 0 0]) (t := 72) ?_; intro gb208 hg w150 hbox hb; have hz_ := zqA HB hb; replace hb := below_step hz_ hb; have BK208 := Aside0.mk hbox; have GE208 := zG HB hz_ hg; have NB205_208 := zN BK205 hz_ hg; have NB208_205 := zM BK205 hz_ hg; have NB206_208 := zN BK206 hz_ hg; have NB208_206 := zM BK206 hz_ hg; have NB207_208 := zN BK207 hz_ hg; have NB208_207 := zM BK207 hz_ hg; replace BK205 := zB BK205 hb; replace BK206 := zB BK206 hb; replace BK207 := zB BK207 hb; replace HB := zH HB hb; clear hz_; clear hb hbox hg; obtain ⟨hnb151, hnc151⟩ := nn_ NB208_205; obtain ⟨hnb152, hnc152⟩ := nn_ NB208_206; obtain ⟨hnb153, hnc153⟩ := nn_ NB208_207; obtain ⟨hcz154_0, hcz154_1, hcz154_2, hcz154_3, hfz154_0, hfz154_1, hfz154_2, hfz154_3⟩ := e4_ BK208) | ((with_reducible refine gate_callee (f := 32) rfl ?_); refine gL (some 19) Try.func32 #[.agg #[.int .i64 a1_0, .int .i64 a1_1, .slice A0_0 l0_0.length c0_0, .slice A0_1 l0_1.length c0_1]] ?_; (with_reducible refine (journal_place_lies.calls k a1_0 a1_1 _ _ l0_0 _ _ l0_1 false _ ?side1 ?side2 ?side3 ?side4 A3.out).mono ?_); (case side1 => exact Kd.C_below HR0_0.out qH); (case side2 => exact HC0_0.out); (case side3 => exact Kd.C_below HR0_1.out qH); (case side4 => exact HC0_1.out); rintro e w155 ⟨rfl, hb⟩; refine ⟨_, rfl, ?_⟩; replace BK205 := wF BK205 hb; replace BK206 := wF BK206 hb; replace BK207 := wF BK207 hb; replace BK208 := wP4 BK208 hb; replace HB := wH hb; (try clear hb); obtain ⟨hcz156_0, hcz156_1, hcz156_2, hfz156_0, hfz156_1, hfz156_2⟩ := e3_ BK207))
  refine bodyPost_ret (results_ct rfl _ _ gb207 37 #[.int .i64 0, .slice none 0 0, .int .i64 0] (0, 0) _ rfl (by (with_reducible repeat (first | apply xN_ | apply xD_ | apply xA_)); refine blk_put (cs := #[.int .i64 0, .slice none 0 0, .int .i64 0]) ?_ 2 _ rfl; refine blk_put (cs := #[.int .i64 0, .slice none 0 0, .int .i64 0]) ?_ 1 _ rfl; refine blk_put (cs := #[.int .i64 0, .slice none 0 0, .int .i64 0]) ?_ 0 _ rfl; (with_reducible repeat (first | apply xN_ | apply xD_ | apply xA_)); exact BK207.out) Try.underlying37 rfl (by kernel_rfl)) rfl ?_
  exact ⟨_, eX, by first | exact Kd.R_nil _ _ _ _ _ | exact Kd.N_nil _ _ _ _ _ | exact Kd.V_nil _ _ _ _ _ | exact Kd.Q_nil _ _ _ _ _ | exact Kd.S_nil _ _ _ _ _, qH⟩
end
end Go.Proofs.Ythoddglnfdmdeaa.P
