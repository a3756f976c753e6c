/- Printed functions, merged. -/
import Derived.Test.YthoddglnfdmdeaaZJSM0
import Derived.Test.YthoddglnfdmdeaaZJSM4
import Derived.Test.YthoddglnfdmdeaaZJSH6
import Derived.Test.YthoddglnfdmdeaaZJSH3
import Derived.Test.YthoddglnfdmdeaaZJSAl
namespace Go.Proofs.Ythoddglnfdmdeaa.P
open Go.RowKit Go.Proofs.YthoddglnfdmdeaaW.PrintWords Go.Proofs.YthoddglnfdmdeaaW.PrintLast Go.Proofs.YthoddglnfdmdeaaW.PrintMore
attribute [local go_sem] max2_int min2_int max_two min_two max_three min_three max_four min_four   -- for this text's walks alone
set_option linter.unusedVariables false
set_option linter.unusedSimpArgs false
def journal_place_head.f (k : Nat) (a0_0 : Int) (a0_1 : Int) (l0_2 : List ByteArray) (l0_3 : List (S29)) (a1 : Int) : Option (Int × Int × Int × Int × Int × Bool) := (disk_Get.f l0_2 l0_3 a1).bind fun bt167 => ((rec_Read.f k bt167.1).bind fun bt169 => (some (bt169.1, bt169.2.1, bt169.2.2.1, bt169.2.2.2.1, bt169.2.2.2.2.1, bt169.2.2.2.2.2)))
theorem journal_place_head.mono : ∀ a0 a1 a2 a3 a4 k, LeO (journal_place_head.f k a0 a1 a2 a3 a4) (journal_place_head.f (k + 1) a0 a1 a2 a3 a4) := by
 intro a0 a1 a2 a3 a4 k
 unfold journal_place_head.f
 repeat' first
   | (with_reducible exact rec_Read.mono _ _)
   | (with_reducible exact LeO.refl _)
   | (with_reducible exact LeO.none _)
   | (with_reducible refine LeO.ite ?_ ?_)
   | (with_reducible refine LeO.bind ?_ (fun _ => ?_))
   | exact rec_Read.mono _ _
   | exact LeO.none _
   | refine LeO.ite ?_ ?_
   | refine LeO.bind ?_ (fun _ => ?_)
set_option maxHeartbeats 8000000 in
set_option maxRecDepth 100000 in
theorem journal_place_head.calls (k : Nat) (a0_0 : Int) (a0_1 : Int) (A0_2 : Option Addr) (c0_2 : Nat) (l0_2 : List ByteArray) (A0_3 : Option Addr) (c0_3 : Nat) (l0_3 : List (S29)) (a1 : Int) (r1 : Int) (r2 : Int) (r3 : Int) (r4 : Int) (r5 : Int) (r6 : Bool) (w : World) (hr0_2 : Kd.C Kd.string w A0_2 l0_2.length l0_2) (hc0_2 : l0_2.length ≤ c0_2) (hr0_3 : Kd.C k29 w A0_3 l0_3.length l0_3) (hc0_3 : l0_3.length ≤ c0_3) (h : journal_place_head.f k a0_0 a0_1 l0_2 l0_3 a1 = some (r1, r2, r3, r4, r5, r6)) :
  Calls Try.prog 33 #[.agg #[.int .i64 a0_0, .int .i64 a0_1, .slice A0_2 l0_2.length c0_2, .slice A0_3 l0_3.length c0_3], .int .i64 a1] w fun e w' => e = .returned (.tuple #[.agg #[.int .i64 r1, .int .i64 r2, .int .i64 r3, .int .i64 r4, .int .i64 r5], .bool r6]) ∧ Below w.heap.size w w' := by
 have hu72 := Try.underlying72
 have hu73 := Try.underlying73
 have hu25 := Try.underlying25
 have HR0_2 := Aside0.mk hr0_2
 have HC0_2 := Aside0.mk hc0_2
 clear hr0_2 hc0_2
 have HR0_3 := Aside0.mk hr0_3
 have HC0_3 := Aside0.mk hc0_3
 clear hr0_3 hc0_3
 have HB := Aside0.mk (Below.refl w.heap.size w)
 have H := h
 unfold journal_place_head.f at H
 clear h
 replace H := Option.bind_eq_some_iff.mp H
 obtain ⟨⟨t167, t168⟩, A30, H⟩ := H
 try dsimp only at H
 have A3 := Aside0.mk A30
 clear A30
 replace H := Option.bind_eq_some_iff.mp H
 obtain ⟨⟨t169, t170, t171, t172, t173, t174⟩, A40, H⟩ := H
 try dsimp only at H
 have A4 := Aside0.mk A40
 clear A40
 simp only [Option.some.injEq, Prod.mk.injEq] at H
 obtain ⟨rfl, rfl, rfl, rfl, rfl, rfl⟩ := H
 go_enter Try.func33, Try.ntmps33
 go_wp2_with (first | ((with_reducible refine gate_dst (N := 2) rfl ?_); refine bE (N := 2) (cs := #[.int .i64 a0_0, .int .i64 a0_1, .slice A0_2 l0_2.length c0_2, .slice A0_3 l0_3.length c0_3]) (t := 72) ?_; intro gb165 hg w5 hbox hb; have n0_ := wH hb; have n1_ := Aside0.mk (hbox); have n2_ := Aside0.mk ((qG hg)); have n3_ := Aside0.mk ((qG hg)); clear HB; have HB := n0_; have BK165 := n1_; have GE165 := n3_; clear n0_ n1_ n2_ n3_; clear hb hbox hg) | ((with_reducible refine gate_dst (N := 4) rfl ?_); refine bE (N := 4) (cs := #[.int .i64 0, .int .i64 0, .int .i64 0, .int .i64 0, .int .i64 0]) (t := 73) ?_; intro gb166 hg w6 hbox hb; have n0_ := wB BK165 hb; have n1_ := wH hb; have n2_ := Aside0.mk (hbox); have n3_ := Aside0.mk ((qG hg)); have n4_ := Aside0.mk ((qG hg)); have n5_ := Aside0.mk ((by rw [hg]; exact Nat.ne_of_lt (blk_lt (g := gb165) (o := .cells #[.int .i64 a0_0, .int .i64 a0_1, .slice A0_2 l0_2.length c0_2, .slice A0_3 l0_3.length c0_3] 72 (0, 0)) (qB BK165)) : gb165 ≠ gb166)); have n6_ := Aside0.mk ((by rw [hg]; exact Nat.ne_of_gt (blk_lt (g := gb165) (o := .cells #[.int .i64 a0_0, .int .i64 a0_1, .slice A0_2 l0_2.length c0_2, .slice A0_3 l0_3.length c0_3] 72 (0, 0)) (qB BK165)) : gb166 ≠ gb165)); clear BK165; clear HB; have BK165 := n0_; have HB := n1_; have BK166 := n2_; have GE166 := n4_; have NB165_166 := n5_; have NB166_165 := n6_; clear n0_ n1_ n2_ n3_ n4_ n5_ n6_; clear hb hbox hg; obtain ⟨hnb7, hnc7⟩ := nn_ NB165_166; obtain ⟨hcz8_0, hcz8_1, hcz8_2, hcz8_3, hfz8_0, hfz8_1, hfz8_2, hfz8_3⟩ := e4_ BK165) | ((with_reducible refine gate_callee (f := 52) rfl ?_); refine gL (some 12) Try.func52 #[.agg #[.slice A0_2 l0_2.length c0_2, .slice A0_3 l0_3.length c0_3], .int .i64 a1] ?_; (with_reducible refine (disk_Get.calls _ _ l0_2 _ _ l0_3 a1 t167 t168 _ ?side1 ?side2 ?side3 ?side4 A3.out).mono ?_); (case side1 => exact qC HR0_2); (case side2 => exact HC0_2.out); (case side3 => exact qC HR0_3); (case side4 => exact HC0_3.out); rintro e w9 ⟨rfl, hb⟩; refine ⟨_, rfl, ?_⟩; have n0_ := wB BK165 hb; have n1_ := wB BK166 hb; have n2_ := wH hb; clear BK165; clear BK166; clear HB; have BK165 := n0_; have BK166 := n1_; have HB := n2_; clear n0_ n1_ n2_; (try clear hb); (try clear hb2); (try clear hk); (try clear hi)) | ((with_reducible refine gate_callee (f := 53) rfl ?_); refine gL (some 16) Try.func53 #[.string t167] ?_; (with_reducible refine (rec_Read.calls k t167 t169 t170 t171 t172 t173 t174 _ A4.out).mono ?_); rintro e w10 ⟨rfl, hb⟩; refine ⟨_, rfl, ?_⟩; have n0_ := wB BK165 hb; have n1_ := wB BK166 hb; have n2_ := wH hb; clear BK165; clear BK166; clear HB; have BK165 := n0_; have BK166 := n1_; have HB := n2_; clear n0_ n1_ n2_; (try clear hb); (try clear hb2); (try clear hk); (try clear hi); obtain ⟨hcz11_0, hcz11_1, hcz11_2, hcz11_3, hcz11_4, hfz11_0, hfz11_1, hfz11_2, hfz11_3, hfz11_4⟩ := e5_ BK166))
 refine bodyPost_ret (results_ct rfl _ _ gb166 73 #[.int .i64 t169, .int .i64 t170, .int .i64 t171, .int .i64 t172, .int .i64 t173] (0, 0) _ rfl (by (with_reducible repeat (first | apply xN_ | apply xD_ | apply xA_)); refine blk_put (cs := #[.int .i64 t169, .int .i64 t170, .int .i64 t171, .int .i64 t172, .int .i64 0]) ?_ 4 _ rfl; refine blk_put (cs := #[.int .i64 t169, .int .i64 t170, .int .i64 t171, .int .i64 0, .int .i64 0]) ?_ 3 _ rfl; refine blk_put (cs := #[.int .i64 t169, .int .i64 t170, .int .i64 0, .int .i64 0, .int .i64 0]) ?_ 2 _ rfl; refine blk_put (cs := #[.int .i64 t169, .int .i64 0, .int .i64 0, .int .i64 0, .int .i64 0]) ?_ 1 _ rfl; refine blk_put (cs := #[.int .i64 0, .int .i64 0, .int .i64 0, .int .i64 0, .int .i64 0]) ?_ 0 _ rfl; (with_reducible repeat (first | apply xN_ | apply xD_ | apply xA_)); exact BK166.out) Try.underlying73 rfl (by kernel_rfl)) rfl ?_
 exact ⟨eX, qH⟩
def journal_Clean.l0 : Nat → Int → Int → Int → Int → List ByteArray → Int → Int → Int → List ByteArray → List (S29) → Option (Bool)
 | 0, _, _, _, _, _, _, _, _, _, _ => none
 | k + 1, x8, x234000, x234001, x235000, x235001, x235002, x236000, x236001, x236002, x236003 => (journal_Region_end.f x234000 x234001).bind fun t237 => (if x8 < t237 then ((journal_place_head.f k x236000 x236001 x236002 x236003 x8).bind fun bt238 => (if bt238.2.2.2.2.2 = true then (if bt238.1 = 2 then (if bt238.2.1 = x235000 then (if bt238.2.2.1 ≥ (x235001.length : Int) then (some false) else (journal_Clean.l0 k (wrap64 (x8 + 1)) x234000 x234001 x235000 x235001 x235002 x236000 x236001 x236002 x236003)) else (journal_Clean.l0 k (wrap64 (x8 + 1)) x234000 x234001 x235000 x235001 x235002 x236000 x236001 x236002 x236003)) else (journal_Clean.l0 k (wrap64 (x8 + 1)) x234000 x234001 x235000 x235001 x235002 x236000 x236001 x236002 x236003)) else (journal_Clean.l0 k (wrap64 (x8 + 1)) x234000 x234001 x235000 x235001 x235002 x236000 x236001 x236002 x236003))) else (some true))
def journal_Clean.f (k : Nat) (l0_0 : List ByteArray) (l0_1 : List (S29)) (a1_0 : Int) (a1_1 : Int) (a2_0 : Int) (l2_1 : List ByteArray) (a2_2 : Int) : Option (Bool) := (journal_place_lies.f k a1_0 a1_1 l0_0 l0_1).bind fun t236 => (if t236 = true then (journal_Clean.l0 k (mx a2_2 a1_0) a1_0 a1_1 a2_0 l2_1 a2_2 a1_0 a1_1 l0_0 l0_1) else (some false))
theorem journal_Clean.mono_l : ∀ k, (∀ y0 y1 y2 y3 y4 y5 y6 y7 y8 y9, LeO (journal_Clean.l0 k y0 y1 y2 y3 y4 y5 y6 y7 y8 y9) (journal_Clean.l0 (k + 1) y0 y1 y2 y3 y4 y5 y6 y7 y8 y9))
 | 0 => fun _ _ _ _ _ _ _ _ _ _ r h => by simp [journal_Clean.l0] at h
 | k + 1 => by
  have ih0 := journal_Clean.mono_l k
  ·intro y0 y1 y2 y3 y4 y5 y6 y7 y8 y9
   unfold journal_Clean.l0
   repeat' first
   | (with_reducible exact ih0 _ _ _ _ _ _ _ _ _ _)
   | (with_reducible exact journal_place_head.mono _ _ _ _ _ _)
   | (with_reducible exact journal_place_lies.mono _ _ _ _ _)
   | (with_reducible exact LeO.refl _)
   | (with_reducible exact LeO.none _)
   | (with_reducible refine LeO.ite ?_ ?_)
   | (with_reducible refine LeO.bind ?_ (fun _ => ?_))
   | exact ih0 _ _ _ _ _ _ _ _ _ _
   | exact journal_place_head.mono _ _ _ _ _ _
   | exact journal_place_lies.mono _ _ _ _ _
   | exact LeO.none _
   | refine LeO.ite ?_ ?_
   | refine LeO.bind ?_ (fun _ => ?_)
theorem journal_Clean.mono : ∀ a0 a1 a2 a3 a4 a5 a6 k, LeO (journal_Clean.f k a0 a1 a2 a3 a4 a5 a6) (journal_Clean.f (k + 1) a0 a1 a2 a3 a4 a5 a6) := by
 intro a0 a1 a2 a3 a4 a5 a6 k
 have ih0 := journal_Clean.mono_l k
 unfold journal_Clean.f
 repeat' first
   | (with_reducible exact ih0 _ _ _ _ _ _ _ _ _ _)
   | (with_reducible exact journal_place_head.mono _ _ _ _ _ _)
   | (with_reducible exact journal_place_lies.mono _ _ _ _ _)
   | (with_reducible exact LeO.refl _)
   | (with_reducible exact LeO.none _)
   | (with_reducible refine LeO.ite ?_ ?_)
   | (with_reducible refine LeO.bind ?_ (fun _ => ?_))
   | exact ih0 _ _ _ _ _ _ _ _ _ _
   | exact journal_place_head.mono _ _ _ _ _ _
   | exact journal_place_lies.mono _ _ _ _ _
   | exact LeO.none _
   | refine LeO.ite ?_ ?_
   | refine LeO.bind ?_ (fun _ => ?_)
set_option maxHeartbeats 8000000 in
set_option maxRecDepth 100000 in
theorem journal_Clean.calls (k : Nat) (A0_0 : Option Addr) (c0_0 : Nat) (l0_0 : List ByteArray) (A0_1 : Option Addr) (c0_1 : Nat) (l0_1 : List (S29)) (a1_0 : Int) (a1_1 : Int) (a2_0 : Int) (A2_1 : Option Addr) (c2_1 : Nat) (l2_1 : List ByteArray) (a2_2 : Int) (r : Bool) (w : World) (hr0_0 : Kd.C Kd.string w A0_0 l0_0.length l0_0) (hc0_0 : l0_0.length ≤ c0_0) (hr0_1 : Kd.C k29 w A0_1 l0_1.length l0_1) (hc0_1 : l0_1.length ≤ c0_1) (hr2_1 : Kd.C Kd.string w A2_1 l2_1.length l2_1) (hc2_1 : l2_1.length ≤ c2_1) (h : journal_Clean.f k l0_0 l0_1 a1_0 a1_1 a2_0 l2_1 a2_2 = some r) :
  Calls Try.prog 14 #[.agg #[.slice A0_0 l0_0.length c0_0, .slice A0_1 l0_1.length c0_1], .agg #[.int .i64 a1_0, .int .i64 a1_1], .agg #[.int .i64 a2_0, .slice A2_1 l2_1.length c2_1, .int .i64 a2_2]] w fun e w' => e = .returned (.bool r) ∧ Below w.heap.size w w' := by
 have hu25 := Try.underlying25
 have hu40 := Try.underlying40
 have hu37 := Try.underlying37
 have hu72 := Try.underlying72
 have hu73 := Try.underlying73
 have HR0_0 := Aside0.mk hr0_0
 have HC0_0 := Aside0.mk hc0_0
 clear hr0_0 hc0_0
 have HR0_1 := Aside0.mk hr0_1
 have HC0_1 := Aside0.mk hc0_1
 clear hr0_1 hc0_1
 have HR2_1 := Aside0.mk hr2_1
 have HC2_1 := Aside0.mk hc2_1
 clear hr2_1 hc2_1
 have HB := Aside0.mk (Below.refl w.heap.size w)
 have H := h
 unfold journal_Clean.f at H
 clear h
 replace H := Option.bind_eq_some_iff.mp H
 obtain ⟨t236, A40, H⟩ := H
 try dsimp only at H
 have A4 := Aside0.mk A40
 clear A40
 by_cases c5 : t236 = true
 ·subst c5
  rw [if_pos rfl] at H
  obtain ⟨ji6, hji6⟩ : ∃ j_ : Int, (mx a2_2 a1_0) = j_ := ⟨_, rfl⟩
  replace H : (journal_Clean.l0 k ji6 a1_0 a1_1 a2_0 l2_1 a2_2 a1_0 a1_1 l0_0 l0_1) = some r := by first | (rw [hji6] at H; exact H) | (simp only [hji6] at H ⊢; exact H)
  (try rw [hji6] at A4)
  have hji6_ : (if a2_2 < a1_0 then a1_0 else a2_2) = ji6 := hji6
  have H' := Aside0.mk H
  clear H
  go_enter Try.func14, Try.ntmps14
  go_wp2_with (first | ((with_reducible refine gate_dst (N := 3) rfl ?_); (try (refine gate_guard (by rfl) ?_; dsimp only)); refine bE (N := 3) (cs := #[.slice A0_0 l0_0.length c0_0, .slice A0_1 l0_1.length c0_1]) (t := 25) ?_; intro gb232 hg w7 hbox hb; have hz_ := zqA HB hb; replace hb := below_step hz_ hb; have BK232 := Aside0.mk hbox; have GE232 := zG HB hz_ hg; replace HB := zH HB hb; clear hz_; clear hb hbox hg) | ((with_reducible refine gate_dst (N := 4) rfl ?_); (try (refine gate_guard (by rfl) ?_; dsimp only)); refine bE (N := 4) (cs := #[.int .i64 a1_0, .int .i64 a1_1]) (t := 40) ?_; intro gb233 hg w8 hbox hb; have hz_ := zqA HB hb; replace hb := below_step hz_ hb; have BK233 := Aside0.mk hbox; have GE233 := zG HB hz_ hg; have NB232_233 := zN BK232 hz_ hg; have NB233_232 := zM BK232 hz_ hg; replace BK232 := zB BK232 hb; replace HB := zH HB hb; clear hz_; clear hb hbox hg) | ((with_reducible refine gate_dst (N := 5) rfl ?_); (try (refine gate_guard (by rfl) ?_; dsimp only)); refine bE (N := 5) (cs := #[.int .i64 a2_0, .slice A2_1 l2_1.length c2_1, .int .i64 a2_2]) (t := 37) ?_; intro gb234 hg w9 hbox hb; have hz_ := zqA HB hb; replace hb := below_step hz_ hb; have BK234 := Aside0.mk hbox; have GE234 := zG HB hz_ hg; have NB232_234 := zN BK232 hz_ hg; have NB234_232 := zM BK232 hz_ hg; have NB233_234 := zN BK233 hz_ hg; have NB234_233 := zM BK233 hz_ hg; replace BK232 := zB BK232 hb; replace BK233 := zB BK233 hb; replace HB := zH HB hb; clear hz_; clear hb hbox hg; obtain ⟨hnb10, hnc10⟩ := nn_ NB233_232; obtain ⟨hnb11, hnc11⟩ := nn_ NB233_234; obtain ⟨hcz12_0, hcz12_1, hfz12_0, hfz12_1⟩ := e2_ BK233; obtain ⟨hnb13, hnc13⟩ := nn_ NB232_234; obtain ⟨hcz14_0, hcz14_1, hfz14_0, hfz14_1⟩ := e2_ BK232) | ((with_reducible refine gate_dst (N := 7) rfl ?_); (try (refine gate_guard (by rfl) ?_; dsimp only)); refine bE (N := 7) (cs := #[.int .i64 0, .int .i64 0, .slice none 0 0, .slice none 0 0]) (t := 72) ?_; intro gb235 hg w15 hbox hb; have hz_ := zqA HB hb; replace hb := below_step hz_ hb; have BK235 := Aside0.mk hbox; have GE235 := zG HB hz_ hg; have NB232_235 := zN BK232 hz_ hg; have NB235_232 := zM BK232 hz_ hg; have NB233_235 := zN BK233 hz_ hg; have NB235_233 := zM BK233 hz_ hg; have NB234_235 := zN BK234 hz_ hg; have NB235_234 := zM BK234 hz_ hg; replace BK232 := zB BK232 hb; replace BK233 := zB BK233 hb; replace BK234 := zB BK234 hb; replace HB := zH HB hb; clear hz_; clear hb hbox hg; obtain ⟨hnb16, hnc16⟩ := nn_ NB235_232; obtain ⟨hnb17, hnc17⟩ := nn_ NB235_233; obtain ⟨hnb18, hnc18⟩ := nn_ NB235_234; obtain ⟨hcz19_0, hcz19_1, hcz19_2, hcz19_3, hfz19_0, hfz19_1, hfz19_2, hfz19_3⟩ := e4_ BK235) | ((with_reducible refine gate_callee (f := 32) rfl ?_); refine gL (some 15) Try.func32 #[.agg #[.int .i64 a1_0, .int .i64 a1_1, .slice A0_0 l0_0.length c0_0, .slice A0_1 l0_1.length c0_1]] ?_; (with_reducible refine (journal_place_lies.calls k a1_0 a1_1 _ _ l0_0 _ _ l0_1 true _ ?side1 ?side2 ?side3 ?side4 A4.out).mono ?_); (case side1 => exact Kd.C_below HR0_0.out qH); (case side2 => exact HC0_0.out); (case side3 => exact Kd.C_below HR0_1.out qH); (case side4 => exact HC0_1.out); rintro e w20 ⟨rfl, hb⟩; refine ⟨_, rfl, ?_⟩; replace BK232 := wF BK232 hb; replace BK233 := wF BK233 hb; replace BK234 := wF BK234 hb; replace BK235 := wP4 BK235 hb; replace HB := wH hb; (try clear hb); obtain ⟨hcz21_0, hcz21_1, hcz21_2, hfz21_0, hfz21_1, hfz21_2⟩ := e3_ BK234; obtain ⟨hcz22_0, hcz22_1, hfz22_0, hfz22_1⟩ := e2_ BK233))
  go_loopg [8] k (fun kq v8 w' => ∃ (x8_1 : Int), v8 = .int .i64 x8_1 ∧ Aside0 (journal_Clean.l0 kq x8_1 a1_0 a1_1 a2_0 l2_1 a2_2 a1_0 a1_1 l0_0 l0_1 = some r) ∧ Aside0 (kq ≤ k) ∧ Aside0 (w'.heap[gb232]? = some (.cells #[(.slice A0_0 l0_0.length c0_0), (.slice A0_1 l0_1.length c0_1)] 25 (0, 0))) ∧ Aside0 (w'.heap[gb233]? = some (.cells #[.int .i64 a1_0, .int .i64 a1_1] 40 (0, 0))) ∧ Aside0 (w'.heap[gb234]? = some (.cells #[.int .i64 a2_0, (.slice A2_1 l2_1.length c2_1), .int .i64 a2_2] 37 (0, 0))) ∧ Aside0 (w'.heap[gb235]? = some (.cells #[.int .i64 a1_0, .int .i64 a1_1, (.slice A0_0 l0_0.length c0_0), (.slice A0_1 l0_1.length c0_1)] 72 (0, 0))) ∧ Aside0 (Below w.heap.size w w'))
  case atStart => exact ⟨(ji6), (by first | rfl | (simp; done) | (simp only [← hji6] <;> (first | rfl | simp)) | (simp [*]; done)), H', ⟨Nat.le_refl _⟩, ⟨qB BK232⟩, ⟨qB BK233⟩, ⟨qB BK234⟩, ⟨qB BK235⟩, ⟨qH⟩⟩
  case round =>
   clear H'
   (try clear p2); (try clear c5); (try clear hcz12_0); (try clear hcz12_1); (try clear hcz14_0); (try clear hcz14_1); (try clear hcz19_0); (try clear hcz19_1); (try clear hcz19_2)
   (try clear hcz19_3); (try clear hcz21_0); (try clear hcz21_1); (try clear hcz21_2); (try clear hcz22_0); (try clear hcz22_1); (try clear hfz12_0); (try clear hfz12_1)
   (try clear hfz14_0); (try clear hfz14_1); (try clear hfz19_0); (try clear hfz19_1); (try clear hfz19_2); (try clear hfz19_3); (try clear hfz21_0); (try clear hfz21_1)
   (try clear hfz21_2); (try clear hfz22_0); (try clear hfz22_1)
   obtain ⟨x8_1, rfl, HA, HK1, BK232, BK233, BK234, BK235, HB⟩ := hrel
   cases gk with
   | zero => exact absurd HA.out (by simp [journal_Clean.l0])
   | succ k1 =>
    have H := HA.out
    clear HA
    simp only [journal_Clean.l0] at H
    replace H := Option.bind_eq_some_iff.mp H
    obtain ⟨t237, A230, H⟩ := H
    try dsimp only at H
    have A23 := Aside0.mk A230
    clear A230
    by_cases c24 : x8_1 < t237
    ·rw [if_pos c24] at H
     have c24b0 : decide (x8_1 < t237) = true := decide_eq_true c24
     clear c24
     replace H := Option.bind_eq_some_iff.mp H
     obtain ⟨⟨t238, t239, t240, t241, t242, t243⟩, A250, H⟩ := H
     try dsimp only at H
     have A25 := Aside0.mk A250
     clear A250
     by_cases c26 : t243 = true
     ·subst c26
      rw [if_pos rfl] at H
      by_cases c27 : t238 = 2
      ·rw [if_pos c27] at H
       have c27b0 : (t238 == 2) = true := beq_iff_eq.mpr c27
       have c27b1 : (t238 != 2) = false := bne_eq_false_iff_eq.mpr c27
       clear c27
       by_cases c28 : t239 = a2_0
       ·rw [if_pos c28] at H
        have c28b0 : (t239 == a2_0) = true := beq_iff_eq.mpr c28
        have c28b1 : (t239 != a2_0) = false := bne_eq_false_iff_eq.mpr c28
        clear c28
        by_cases c29 : t240 ≥ (l2_1.length : Int)
        ·rw [if_pos c29] at H
         have c29b0 : decide ((l2_1.length : Int) ≤ t240) = true := decide_eq_true c29
         clear c29
         obtain rfl := Option.some.inj H
         obtain ⟨hnb30, hnc30⟩ := nn_ NB233_232
         obtain ⟨hnb31, hnc31⟩ := nn_ NB233_234
         obtain ⟨hnb32, hnc32⟩ := nn_ NB233_235
         obtain ⟨hcz33_0, hcz33_1, hfz33_0, hfz33_1⟩ := e2_ BK233
         go_wp2_with (first | ((with_reducible refine gate_callee (f := 35) rfl ?_); refine gL (some 24) Try.func35 #[.agg #[.int .i64 a1_0, .int .i64 a1_1]] ?_; (with_reducible refine (journal_Region_end.calls a1_0 a1_1 t237 _ A23.out).mono ?_); rintro e w34 ⟨rfl, hb⟩; refine ⟨_, rfl, ?_⟩; have hz_ := zqA HB hb; replace hb := below_step hz_ hb; replace BK232 := zB BK232 hb; replace BK233 := zB BK233 hb; replace BK234 := zB BK234 hb; replace BK235 := zB BK235 hb; replace HB := zH HB hb; clear hz_; (try clear hb); obtain ⟨hnb35, hnc35⟩ := nn_ NB235_232; obtain ⟨hnb36, hnc36⟩ := nn_ NB235_234; obtain ⟨hcz37_0, hcz37_1, hcz37_2, hcz37_3, hfz37_0, hfz37_1, hfz37_2, hfz37_3⟩ := e4_ BK235) | ((with_reducible refine gate_callee (f := 33) rfl ?_); refine gL (some 31) Try.func33 #[.agg #[.int .i64 a1_0, .int .i64 a1_1, .slice A0_0 l0_0.length c0_0, .slice A0_1 l0_1.length c0_1], .int .i64 x8_1] ?_; (with_reducible refine (journal_place_head.calls k1 a1_0 a1_1 _ _ l0_0 _ _ l0_1 x8_1 t238 t239 t240 t241 t242 true _ ?side1 ?side2 ?side3 ?side4 A25.out).mono ?_); (case side1 => exact qC HR0_0); (case side2 => exact HC0_0.out); (case side3 => exact qC HR0_1); (case side4 => exact HC0_1.out); rintro e w38 ⟨rfl, hb⟩; refine ⟨_, rfl, ?_⟩; have hz_ := zqA HB hb; replace hb := below_step hz_ hb; replace BK232 := zB BK232 hb; replace BK233 := zB BK233 hb; replace BK234 := zB BK234 hb; replace BK235 := zB BK235 hb; replace HB := zH HB hb; clear hz_; (try clear hb)) | ((with_reducible refine gate_dst (N := 9) rfl ?_); (try (refine gate_guard (by rfl) ?_; dsimp only)); refine bE (N := 9) (cs := #[.int .i64 0, .int .i64 0, .int .i64 0, .int .i64 0, .int .i64 0]) (t := 73) ?_; intro gb244 hg w39 hbox hb; have hz_ := zqA HB hb; replace hb := below_step hz_ hb; have BK244 := Aside0.mk hbox; have GE244 := zG HB hz_ hg; have NB232_244 := zN BK232 hz_ hg; have NB244_232 := zM BK232 hz_ hg; have NB233_244 := zN BK233 hz_ hg; have NB244_233 := zM BK233 hz_ hg; have NB234_244 := zN BK234 hz_ hg; have NB244_234 := zM BK234 hz_ hg; have NB235_244 := zN BK235 hz_ hg; have NB244_235 := zM BK235 hz_ hg; replace BK232 := zB BK232 hb; replace BK233 := zB BK233 hb; replace BK234 := zB BK234 hb; replace BK235 := zB BK235 hb; replace HB := zH HB hb; clear hz_; clear hb hbox hg; obtain ⟨hnb40, hnc40⟩ := nn_ NB244_232; obtain ⟨hnb41, hnc41⟩ := nn_ NB244_233; obtain ⟨hnb42, hnc42⟩ := nn_ NB244_234; obtain ⟨hnb43, hnc43⟩ := nn_ NB244_235; obtain ⟨hcz44_0, hcz44_1, hcz44_2, hcz44_3, hcz44_4, hfz44_0, hfz44_1, hfz44_2, hfz44_3, hfz44_4⟩ := e5_ BK244; obtain ⟨hnb45, hnc45⟩ := nn_ NB234_232; obtain ⟨hcz46_0, hcz46_1, hcz46_2, hfz46_0, hfz46_1, hfz46_2⟩ := e3_ BK234))
         go_ret
         exact ⟨by first | rfl | (simp [errW_none, errW_some] <;> rfl) | (simp only [← hji6]; first | rfl | (simp [errW_none, errW_some] <;> rfl)) | (simp [*, errW_none, errW_some] <;> rfl), qH⟩
        ·rw [if_neg c29] at H
         have c29b0 : decide ((l2_1.length : Int) ≤ t240) = false := decide_eq_false c29
         clear c29
         have H' := Aside0.mk H
         clear H
         obtain ⟨hnb47, hnc47⟩ := nn_ NB233_232
         obtain ⟨hnb48, hnc48⟩ := nn_ NB233_234
         obtain ⟨hnb49, hnc49⟩ := nn_ NB233_235
         obtain ⟨hcz50_0, hcz50_1, hfz50_0, hfz50_1⟩ := e2_ BK233
         go_wp2_with (first | ((with_reducible refine gate_callee (f := 35) rfl ?_); refine gL (some 24) Try.func35 #[.agg #[.int .i64 a1_0, .int .i64 a1_1]] ?_; (with_reducible refine (journal_Region_end.calls a1_0 a1_1 t237 _ A23.out).mono ?_); rintro e w51 ⟨rfl, hb⟩; refine ⟨_, rfl, ?_⟩; have hz_ := zqA HB hb; replace hb := below_step hz_ hb; replace BK232 := zB BK232 hb; replace BK233 := zB BK233 hb; replace BK234 := zB BK234 hb; replace BK235 := zB BK235 hb; replace HB := zH HB hb; clear hz_; (try clear hb); obtain ⟨hnb52, hnc52⟩ := nn_ NB235_232; obtain ⟨hnb53, hnc53⟩ := nn_ NB235_234; obtain ⟨hcz54_0, hcz54_1, hcz54_2, hcz54_3, hfz54_0, hfz54_1, hfz54_2, hfz54_3⟩ := e4_ BK235) | ((with_reducible refine gate_callee (f := 33) rfl ?_); refine gL (some 31) Try.func33 #[.agg #[.int .i64 a1_0, .int .i64 a1_1, .slice A0_0 l0_0.length c0_0, .slice A0_1 l0_1.length c0_1], .int .i64 x8_1] ?_; (with_reducible refine (journal_place_head.calls k1 a1_0 a1_1 _ _ l0_0 _ _ l0_1 x8_1 t238 t239 t240 t241 t242 true _ ?side1 ?side2 ?side3 ?side4 A25.out).mono ?_); (case side1 => exact qC HR0_0); (case side2 => exact HC0_0.out); (case side3 => exact qC HR0_1); (case side4 => exact HC0_1.out); rintro e w55 ⟨rfl, hb⟩; refine ⟨_, rfl, ?_⟩; have hz_ := zqA HB hb; replace hb := below_step hz_ hb; replace BK232 := zB BK232 hb; replace BK233 := zB BK233 hb; replace BK234 := zB BK234 hb; replace BK235 := zB BK235 hb; replace HB := zH HB hb; clear hz_; (try clear hb)) | ((with_reducible refine gate_dst (N := 9) rfl ?_); (try (refine gate_guard (by rfl) ?_; dsimp only)); refine bE (N := 9) (cs := #[.int .i64 0, .int .i64 0, .int .i64 0, .int .i64 0, .int .i64 0]) (t := 73) ?_; intro gb244 hg w56 hbox hb; have hz_ := zqA HB hb; replace hb := below_step hz_ hb; have BK244 := Aside0.mk hbox; have GE244 := zG HB hz_ hg; have NB232_244 := zN BK232 hz_ hg; have NB244_232 := zM BK232 hz_ hg; have NB233_244 := zN BK233 hz_ hg; have NB244_233 := zM BK233 hz_ hg; have NB234_244 := zN BK234 hz_ hg; have NB244_234 := zM BK234 hz_ hg; have NB235_244 := zN BK235 hz_ hg; have NB244_235 := zM BK235 hz_ hg; replace BK232 := zB BK232 hb; replace BK233 := zB BK233 hb; replace BK234 := zB BK234 hb; replace BK235 := zB BK235 hb; replace HB := zH HB hb; clear hz_; clear hb hbox hg; obtain ⟨hnb57, hnc57⟩ := nn_ NB244_232; obtain ⟨hnb58, hnc58⟩ := nn_ NB244_233; obtain ⟨hnb59, hnc59⟩ := nn_ NB244_234; obtain ⟨hnb60, hnc60⟩ := nn_ NB244_235; obtain ⟨hcz61_0, hcz61_1, hcz61_2, hcz61_3, hcz61_4, hfz61_0, hfz61_1, hfz61_2, hfz61_3, hfz61_4⟩ := e5_ BK244; obtain ⟨hnb62, hnc62⟩ := nn_ NB234_232; obtain ⟨hcz63_0, hcz63_1, hcz63_2, hfz63_0, hfz63_1, hfz63_2⟩ := e3_ BK234))
         go_roundg k1
         case measure => have := HK1.out; omega
         case rel => exact ⟨(wrap64 (x8_1 + 1)), eY, H', ⟨by have := HK1.out; omega⟩, ⟨by (with_reducible repeat (first | apply xN_ | apply xD_ | apply xA_)); refine xR_ ?_ NB232_244.out _; refine xR_ ?_ NB232_244.out _; refine xR_ ?_ NB232_244.out _; refine xR_ ?_ NB232_244.out _; refine xR_ ?_ NB232_244.out _; (with_reducible repeat (first | apply xN_ | apply xD_ | apply xA_)); exact BK232.out⟩, ⟨by (with_reducible repeat (first | apply xN_ | apply xD_ | apply xA_)); refine xR_ ?_ NB233_244.out _; refine xR_ ?_ NB233_244.out _; refine xR_ ?_ NB233_244.out _; refine xR_ ?_ NB233_244.out _; refine xR_ ?_ NB233_244.out _; (with_reducible repeat (first | apply xN_ | apply xD_ | apply xA_)); exact BK233.out⟩, ⟨by (with_reducible repeat (first | apply xN_ | apply xD_ | apply xA_)); refine xR_ ?_ NB234_244.out _; refine xR_ ?_ NB234_244.out _; refine xR_ ?_ NB234_244.out _; refine xR_ ?_ NB234_244.out _; refine xR_ ?_ NB234_244.out _; (with_reducible repeat (first | apply xN_ | apply xD_ | apply xA_)); exact BK234.out⟩, ⟨by (with_reducible repeat (first | apply xN_ | apply xD_ | apply xA_)); refine xR_ ?_ NB235_244.out _; refine xR_ ?_ NB235_244.out _; refine xR_ ?_ NB235_244.out _; refine xR_ ?_ NB235_244.out _; refine xR_ ?_ NB235_244.out _; (with_reducible repeat (first | apply xN_ | apply xD_ | apply xA_)); exact BK235.out⟩, ⟨qH⟩⟩
       ·rw [if_neg c28] at H
        have c28b0 : (t239 == a2_0) = false := beq_eq_false_iff_ne.mpr c28
        have c28b1 : (t239 != a2_0) = true := bne_iff_ne.mpr c28
        have H' := Aside0.mk H
        clear H
        obtain ⟨hnb64, hnc64⟩ := nn_ NB233_232
        obtain ⟨hnb65, hnc65⟩ := nn_ NB233_234
        obtain ⟨hnb66, hnc66⟩ := nn_ NB233_235
        obtain ⟨hcz67_0, hcz67_1, hfz67_0, hfz67_1⟩ := e2_ BK233
        go_wp2_with (first | ((with_reducible refine gate_callee (f := 35) rfl ?_); refine gL (some 24) Try.func35 #[.agg #[.int .i64 a1_0, .int .i64 a1_1]] ?_; (with_reducible refine (journal_Region_end.calls a1_0 a1_1 t237 _ A23.out).mono ?_); rintro e w68 ⟨rfl, hb⟩; refine ⟨_, rfl, ?_⟩; have hz_ := zqA HB hb; replace hb := below_step hz_ hb; replace BK232 := zB BK232 hb; replace BK233 := zB BK233 hb; replace BK234 := zB BK234 hb; replace BK235 := zB BK235 hb; replace HB := zH HB hb; clear hz_; (try clear hb); obtain ⟨hnb69, hnc69⟩ := nn_ NB235_232; obtain ⟨hnb70, hnc70⟩ := nn_ NB235_234; obtain ⟨hcz71_0, hcz71_1, hcz71_2, hcz71_3, hfz71_0, hfz71_1, hfz71_2, hfz71_3⟩ := e4_ BK235) | ((with_reducible refine gate_callee (f := 33) rfl ?_); refine gL (some 31) Try.func33 #[.agg #[.int .i64 a1_0, .int .i64 a1_1, .slice A0_0 l0_0.length c0_0, .slice A0_1 l0_1.length c0_1], .int .i64 x8_1] ?_; (with_reducible refine (journal_place_head.calls k1 a1_0 a1_1 _ _ l0_0 _ _ l0_1 x8_1 t238 t239 t240 t241 t242 true _ ?side1 ?side2 ?side3 ?side4 A25.out).mono ?_); (case side1 => exact qC HR0_0); (case side2 => exact HC0_0.out); (case side3 => exact qC HR0_1); (case side4 => exact HC0_1.out); rintro e w72 ⟨rfl, hb⟩; refine ⟨_, rfl, ?_⟩; have hz_ := zqA HB hb; replace hb := below_step hz_ hb; replace BK232 := zB BK232 hb; replace BK233 := zB BK233 hb; replace BK234 := zB BK234 hb; replace BK235 := zB BK235 hb; replace HB := zH HB hb; clear hz_; (try clear hb)) | ((with_reducible refine gate_dst (N := 9) rfl ?_); (try (refine gate_guard (by rfl) ?_; dsimp only)); refine bE (N := 9) (cs := #[.int .i64 0, .int .i64 0, .int .i64 0, .int .i64 0, .int .i64 0]) (t := 73) ?_; intro gb244 hg w73 hbox hb; have hz_ := zqA HB hb; replace hb := below_step hz_ hb; have BK244 := Aside0.mk hbox; have GE244 := zG HB hz_ hg; have NB232_244 := zN BK232 hz_ hg; have NB244_232 := zM BK232 hz_ hg; have NB233_244 := zN BK233 hz_ hg; have NB244_233 := zM BK233 hz_ hg; have NB234_244 := zN BK234 hz_ hg; have NB244_234 := zM BK234 hz_ hg; have NB235_244 := zN BK235 hz_ hg; have NB244_235 := zM BK235 hz_ hg; replace BK232 := zB BK232 hb; replace BK233 := zB BK233 hb; replace BK234 := zB BK234 hb; replace BK235 := zB BK235 hb; replace HB := zH HB hb; clear hz_; clear hb hbox hg; obtain ⟨hnb74, hnc74⟩ := nn_ NB244_232; obtain ⟨hnb75, hnc75⟩ := nn_ NB244_233; obtain ⟨hnb76, hnc76⟩ := nn_ NB244_234; obtain ⟨hnb77, hnc77⟩ := nn_ NB244_235; obtain ⟨hcz78_0, hcz78_1, hcz78_2, hcz78_3, hcz78_4, hfz78_0, hfz78_1, hfz78_2, hfz78_3, hfz78_4⟩ := e5_ BK244; obtain ⟨hnb79, hnc79⟩ := nn_ NB234_232; obtain ⟨hcz80_0, hcz80_1, hcz80_2, hfz80_0, hfz80_1, hfz80_2⟩ := e3_ BK234))
        go_roundg k1
        case measure => have := HK1.out; omega
        case rel => exact ⟨(wrap64 (x8_1 + 1)), eY, H', ⟨by have := HK1.out; omega⟩, ⟨by (with_reducible repeat (first | apply xN_ | apply xD_ | apply xA_)); refine xR_ ?_ NB232_244.out _; refine xR_ ?_ NB232_244.out _; refine xR_ ?_ NB232_244.out _; refine xR_ ?_ NB232_244.out _; refine xR_ ?_ NB232_244.out _; (with_reducible repeat (first | apply xN_ | apply xD_ | apply xA_)); exact BK232.out⟩, ⟨by (with_reducible repeat (first | apply xN_ | apply xD_ | apply xA_)); refine xR_ ?_ NB233_244.out _; refine xR_ ?_ NB233_244.out _; refine xR_ ?_ NB233_244.out _; refine xR_ ?_ NB233_244.out _; refine xR_ ?_ NB233_244.out _; (with_reducible repeat (first | apply xN_ | apply xD_ | apply xA_)); exact BK233.out⟩, ⟨by (with_reducible repeat (first | apply xN_ | apply xD_ | apply xA_)); refine xR_ ?_ NB234_244.out _; refine xR_ ?_ NB234_244.out _; refine xR_ ?_ NB234_244.out _; refine xR_ ?_ NB234_244.out _; refine xR_ ?_ NB234_244.out _; (with_reducible repeat (first | apply xN_ | apply xD_ | apply xA_)); exact BK234.out⟩, ⟨by (with_reducible repeat (first | apply xN_ | apply xD_ | apply xA_)); refine xR_ ?_ NB235_244.out _; refine xR_ ?_ NB235_244.out _; refine xR_ ?_ NB235_244.out _; refine xR_ ?_ NB235_244.out _; refine xR_ ?_ NB235_244.out _; (with_reducible repeat (first | apply xN_ | apply xD_ | apply xA_)); exact BK235.out⟩, ⟨qH⟩⟩
      ·rw [if_neg c27] at H
       have c27b0 : (t238 == 2) = false := beq_eq_false_iff_ne.mpr c27
       have c27b1 : (t238 != 2) = true := bne_iff_ne.mpr c27
       have H' := Aside0.mk H
       clear H
       obtain ⟨hnb81, hnc81⟩ := nn_ NB233_232
       obtain ⟨hnb82, hnc82⟩ := nn_ NB233_234
       obtain ⟨hnb83, hnc83⟩ := nn_ NB233_235
       obtain ⟨hcz84_0, hcz84_1, hfz84_0, hfz84_1⟩ := e2_ BK233
       go_wp2_with (first | ((with_reducible refine gate_callee (f := 35) rfl ?_); refine gL (some 24) Try.func35 #[.agg #[.int .i64 a1_0, .int .i64 a1_1]] ?_; (with_reducible refine (journal_Region_end.calls a1_0 a1_1 t237 _ A23.out).mono ?_); rintro e w85 ⟨rfl, hb⟩; refine ⟨_, rfl, ?_⟩; have hz_ := zqA HB hb; replace hb := below_step hz_ hb; replace BK232 := zB BK232 hb; replace BK233 := zB BK233 hb; replace BK234 := zB BK234 hb; replace BK235 := zB BK235 hb; replace HB := zH HB hb; clear hz_; (try clear hb); obtain ⟨hnb86, hnc86⟩ := nn_ NB235_232; obtain ⟨hnb87, hnc87⟩ := nn_ NB235_234; obtain ⟨hcz88_0, hcz88_1, hcz88_2, hcz88_3, hfz88_0, hfz88_1, hfz88_2, hfz88_3⟩ := e4_ BK235) | ((with_reducible refine gate_callee (f := 33) rfl ?_); refine gL (some 31) Try.func33 #[.agg #[.int .i64 a1_0, .int .i64 a1_1, .slice A0_0 l0_0.length c0_0, .slice A0_1 l0_1.length c0_1], .int .i64 x8_1] ?_; (with_reducible refine (journal_place_head.calls k1 a1_0 a1_1 _ _ l0_0 _ _ l0_1 x8_1 t238 t239 t240 t241 t242 true _ ?side1 ?side2 ?side3 ?side4 A25.out).mono ?_); (case side1 => exact qC HR0_0); (case side2 => exact HC0_0.out); (case side3 => exact qC HR0_1); (case side4 => exact HC0_1.out); rintro e w89 ⟨rfl, hb⟩; refine ⟨_, rfl, ?_⟩; have hz_ := zqA HB hb; replace hb := below_step hz_ hb; replace BK232 := zB BK232 hb; replace BK233 := zB BK233 hb; replace BK234 := zB BK234 hb; replace BK235 := zB BK235 hb; replace HB := zH HB hb; clear hz_; (try clear hb)) | ((with_reducible refine gate_dst (N := 9) rfl ?_); (try (refine gate_guard (by rfl) ?_; dsimp only)); refine bE (N := 9) (cs := #[.int .i64 0, .int .i64 0, .int .i64 0, .int .i64 0, .int .i64 0]) (t := 73) ?_; intro gb244 hg w90 hbox hb; have hz_ := zqA HB hb; replace hb := below_step hz_ hb; have BK244 := Aside0.mk hbox; have GE244 := zG HB hz_ hg; have NB232_244 := zN BK232 hz_ hg; have NB244_232 := zM BK232 hz_ hg; have NB233_244 := zN BK233 hz_ hg; have NB244_233 := zM BK233 hz_ hg; have NB234_244 := zN BK234 hz_ hg; have NB244_234 := zM BK234 hz_ hg; have NB235_244 := zN BK235 hz_ hg; have NB244_235 := zM BK235 hz_ hg; replace BK232 := zB BK232 hb; replace BK233 := zB BK233 hb; replace BK234 := zB BK234 hb; replace BK235 := zB BK235 hb; replace HB := zH HB hb; clear hz_; clear hb hbox hg; obtain ⟨hnb91, hnc91⟩ := nn_ NB244_232; obtain ⟨hnb92, hnc92⟩ := nn_ NB244_233; obtain ⟨hnb93, hnc93⟩ := nn_ NB244_234; obtain ⟨hnb94, hnc94⟩ := nn_ NB244_235; obtain ⟨hcz95_0, hcz95_1, hcz95_2, hcz95_3, hcz95_4, hfz95_0, hfz95_1, hfz95_2, hfz95_3, hfz95_4⟩ := e5_ BK244))
       go_roundg k1
       case measure => have := HK1.out; omega
       case rel => exact ⟨(wrap64 (x8_1 + 1)), eY, H', ⟨by have := HK1.out; omega⟩, ⟨by (with_reducible repeat (first | apply xN_ | apply xD_ | apply xA_)); refine xR_ ?_ NB232_244.out _; refine xR_ ?_ NB232_244.out _; refine xR_ ?_ NB232_244.out _; refine xR_ ?_ NB232_244.out _; refine xR_ ?_ NB232_244.out _; (with_reducible repeat (first | apply xN_ | apply xD_ | apply xA_)); exact BK232.out⟩, ⟨by (with_reducible repeat (first | apply xN_ | apply xD_ | apply xA_)); refine xR_ ?_ NB233_244.out _; refine xR_ ?_ NB233_244.out _; refine xR_ ?_ NB233_244.out _; refine xR_ ?_ NB233_244.out _; refine xR_ ?_ NB233_244.out _; (with_reducible repeat (first | apply xN_ | apply xD_ | apply xA_)); exact BK233.out⟩, ⟨by (with_reducible repeat (first | apply xN_ | apply xD_ | apply xA_)); refine xR_ ?_ NB234_244.out _; refine xR_ ?_ NB234_244.out _; refine xR_ ?_ NB234_244.out _; refine xR_ ?_ NB234_244.out _; refine xR_ ?_ NB234_244.out _; (with_reducible repeat (first | apply xN_ | apply xD_ | apply xA_)); exact BK234.out⟩, ⟨by (with_reducible repeat (first | apply xN_ | apply xD_ | apply xA_)); refine xR_ ?_ NB235_244.out _; refine xR_ ?_ NB235_244.out _; refine xR_ ?_ NB235_244.out _; refine xR_ ?_ NB235_244.out _; refine xR_ ?_ NB235_244.out _; (with_reducible repeat (first | apply xN_ | apply xD_ | apply xA_)); exact BK235.out⟩, ⟨qH⟩⟩
     ·replace c26 := Bool.eq_false_iff.mpr c26
      subst c26
      rw [if_neg nF_] at H
      have H' := Aside0.mk H
      clear H
      obtain ⟨hnb96, hnc96⟩ := nn_ NB233_232
      obtain ⟨hnb97, hnc97⟩ := nn_ NB233_234
      obtain ⟨hnb98, hnc98⟩ := nn_ NB233_235
      obtain ⟨hcz99_0, hcz99_1, hfz99_0, hfz99_1⟩ := e2_ BK233
      go_wp2_with (first | ((with_reducible refine gate_callee (f := 35) rfl ?_); refine gL (some 24) Try.func35 #[.agg #[.int .i64 a1_0, .int .i64 a1_1]] ?_; (with_reducible refine (journal_Region_end.calls a1_0 a1_1 t237 _ A23.out).mono ?_); rintro e w100 ⟨rfl, hb⟩; refine ⟨_, rfl, ?_⟩; have hz_ := zqA HB hb; replace hb := below_step hz_ hb; replace BK232 := zB BK232 hb; replace BK233 := zB BK233 hb; replace BK234 := zB BK234 hb; replace BK235 := zB BK235 hb; replace HB := zH HB hb; clear hz_; (try clear hb); obtain ⟨hnb101, hnc101⟩ := nn_ NB235_232; obtain ⟨hnb102, hnc102⟩ := nn_ NB235_234; obtain ⟨hcz103_0, hcz103_1, hcz103_2, hcz103_3, hfz103_0, hfz103_1, hfz103_2, hfz103_3⟩ := e4_ BK235) | ((with_reducible refine gate_callee (f := 33) rfl ?_); refine gL (some 31) Try.func33 #[.agg #[.int .i64 a1_0, .int .i64 a1_1, .slice A0_0 l0_0.length c0_0, .slice A0_1 l0_1.length c0_1], .int .i64 x8_1] ?_; (with_reducible refine (journal_place_head.calls k1 a1_0 a1_1 _ _ l0_0 _ _ l0_1 x8_1 t238 t239 t240 t241 t242 false _ ?side1 ?side2 ?side3 ?side4 A25.out).mono ?_); (case side1 => exact qC HR0_0); (case side2 => exact HC0_0.out); (case side3 => exact qC HR0_1); (case side4 => exact HC0_1.out); rintro e w104 ⟨rfl, hb⟩; refine ⟨_, rfl, ?_⟩; have hz_ := zqA HB hb; replace hb := below_step hz_ hb; replace BK232 := zB BK232 hb; replace BK233 := zB BK233 hb; replace BK234 := zB BK234 hb; replace BK235 := zB BK235 hb; replace HB := zH HB hb; clear hz_; (try clear hb)) | ((with_reducible refine gate_dst (N := 9) rfl ?_); (try (refine gate_guard (by rfl) ?_; dsimp only)); refine bE (N := 9) (cs := #[.int .i64 0, .int .i64 0, .int .i64 0, .int .i64 0, .int .i64 0]) (t := 73) ?_; intro gb244 hg w105 hbox hb; have hz_ := zqA HB hb; replace hb := below_step hz_ hb; have BK244 := Aside0.mk hbox; have GE244 := zG HB hz_ hg; have NB232_244 := zN BK232 hz_ hg; have NB244_232 := zM BK232 hz_ hg; have NB233_244 := zN BK233 hz_ hg; have NB244_233 := zM BK233 hz_ hg; have NB234_244 := zN BK234 hz_ hg; have NB244_234 := zM BK234 hz_ hg; have NB235_244 := zN BK235 hz_ hg; have NB244_235 := zM BK235 hz_ hg; replace BK232 := zB BK232 hb; replace BK233 := zB BK233 hb; replace BK234 := zB BK234 hb; replace BK235 := zB BK235 hb; replace HB := zH HB hb; clear hz_; clear hb hbox hg; obtain ⟨hnb106, hnc106⟩ := nn_ NB244_232; obtain ⟨hnb107, hnc107⟩ := nn_ NB244_233; obtain ⟨hnb108, hnc108⟩ := nn_ NB244_234; obtain ⟨hnb109, hnc109⟩ := nn_ NB244_235; obtain ⟨hcz110_0, hcz110_1, hcz110_2, hcz110_3, hcz110_4, hfz110_0, hfz110_1, hfz110_2, hfz110_3, hfz110_4⟩ := e5_ BK244))
      go_roundg k1
      case measure => have := HK1.out; omega
      case rel => exact ⟨(wrap64 (x8_1 + 1)), eY, H', ⟨by have := HK1.out; omega⟩, ⟨by (with_reducible repeat (first | apply xN_ | apply xD_ | apply xA_)); refine xR_ ?_ NB232_244.out _; refine xR_ ?_ NB232_244.out _; refine xR_ ?_ NB232_244.out _; refine xR_ ?_ NB232_244.out _; refine xR_ ?_ NB232_244.out _; (with_reducible repeat (first | apply xN_ | apply xD_ | apply xA_)); exact BK232.out⟩, ⟨by (with_reducible repeat (first | apply xN_ | apply xD_ | apply xA_)); refine xR_ ?_ NB233_244.out _; refine xR_ ?_ NB233_244.out _; refine xR_ ?_ NB233_244.out _; refine xR_ ?_ NB233_244.out _; refine xR_ ?_ NB233_244.out _; (with_reducible repeat (first | apply xN_ | apply xD_ | apply xA_)); exact BK233.out⟩, ⟨by (with_reducible repeat (first | apply xN_ | apply xD_ | apply xA_)); refine xR_ ?_ NB234_244.out _; refine xR_ ?_ NB234_244.out _; refine xR_ ?_ NB234_244.out _; refine xR_ ?_ NB234_244.out _; refine xR_ ?_ NB234_244.out _; (with_reducible repeat (first | apply xN_ | apply xD_ | apply xA_)); exact BK234.out⟩, ⟨by (with_reducible repeat (first | apply xN_ | apply xD_ | apply xA_)); refine xR_ ?_ NB235_244.out _; refine xR_ ?_ NB235_244.out _; refine xR_ ?_ NB235_244.out _; refine xR_ ?_ NB235_244.out _; refine xR_ ?_ NB235_244.out _; (with_reducible repeat (first | apply xN_ | apply xD_ | apply xA_)); exact BK235.out⟩, ⟨qH⟩⟩
    ·rw [if_neg c24] at H
     have c24b0 : decide (x8_1 < t237) = false := decide_eq_false c24
     clear c24
     obtain rfl := Option.some.inj H
     obtain ⟨hnb111, hnc111⟩ := nn_ NB233_232
     obtain ⟨hnb112, hnc112⟩ := nn_ NB233_234
     obtain ⟨hnb113, hnc113⟩ := nn_ NB233_235
     obtain ⟨hcz114_0, hcz114_1, hfz114_0, hfz114_1⟩ := e2_ BK233
     go_wp2_with (first | ((with_reducible refine gate_callee (f := 35) rfl ?_); refine gL (some 24) Try.func35 #[.agg #[.int .i64 a1_0, .int .i64 a1_1]] ?_; (with_reducible refine (journal_Region_end.calls a1_0 a1_1 t237 _ A23.out).mono ?_); rintro e w115 ⟨rfl, hb⟩; refine ⟨_, rfl, ?_⟩; have hz_ := zqA HB hb; replace hb := below_step hz_ hb; replace BK232 := zB BK232 hb; replace BK233 := zB BK233 hb; replace BK234 := zB BK234 hb; replace BK235 := zB BK235 hb; replace HB := zH HB hb; clear hz_; (try clear hb)))
     go_ret
     exact ⟨by first | rfl | (simp [errW_none, errW_some] <;> rfl) | (simp only [← hji6]; first | rfl | (simp [errW_none, errW_some] <;> rfl)) | (simp [*, errW_none, errW_some] <;> rfl), qH⟩
 ·replace c5 := Bool.eq_false_iff.mpr c5
  subst c5
  rw [if_neg nF_] at H
  obtain rfl := Option.some.inj H
  go_enter Try.func14, Try.ntmps14
  go_wp2_with (first | ((with_reducible refine gate_dst (N := 3) rfl ?_); (try (refine gate_guard (by rfl) ?_; dsimp only)); refine bE (N := 3) (cs := #[.slice A0_0 l0_0.length c0_0, .slice A0_1 l0_1.length c0_1]) (t := 25) ?_; intro gb232 hg w116 hbox hb; have hz_ := zqA HB hb; replace hb := below_step hz_ hb; have BK232 := Aside0.mk hbox; have GE232 := zG HB hz_ hg; replace HB := zH HB hb; clear hz_; clear hb hbox hg) | ((with_reducible refine gate_dst (N := 4) rfl ?_); (try (refine gate_guard (by rfl) ?_; dsimp only)); refine bE (N := 4) (cs := #[.int .i64 a1_0, .int .i64 a1_1]) (t := 40) ?_; intro gb233 hg w117 hbox hb; have hz_ := zqA HB hb; replace hb := below_step hz_ hb; have BK233 := Aside0.mk hbox; have GE233 := zG HB hz_ hg; have NB232_233 := zN BK232 hz_ hg; have NB233_232 := zM BK232 hz_ hg; replace BK232 := zB BK232 hb; replace HB := zH HB hb; clear hz_; clear hb hbox hg) | ((with_reducible refine gate_dst (N := 5) rfl ?_); (try (refine gate_guard (by rfl) ?_; dsimp only)); refine bE (N := 5) (cs := #[.int .i64 a2_0, .slice A2_1 l2_1.length c2_1, .int .i64 a2_2]) (t := 37) ?_; intro gb234 hg w118 hbox hb; have hz_ := zqA HB hb; replace hb := below_step hz_ hb; have BK234 := Aside0.mk hbox; have GE234 := zG HB hz_ hg; have NB232_234 := zN BK232 hz_ hg; have NB234_232 := zM BK232 hz_ hg; have NB233_234 := zN BK233 hz_ hg; have NB234_233 := zM BK233 hz_ hg; replace BK232 := zB BK232 hb; replace BK233 := zB BK233 hb; replace HB := zH HB hb; clear hz_; clear hb hbox hg; obtain ⟨hnb119, hnc119⟩ := nn_ NB233_232; obtain ⟨hnb120, hnc120⟩ := nn_ NB233_234; obtain ⟨hcz121_0, hcz121_1, hfz121_0, hfz121_1⟩ := e2_ BK233; obtain ⟨hnb122, hnc122⟩ := nn_ NB232_234; obtain ⟨hcz123_0, hcz123_1, hfz123_0, hfz123_1⟩ := e2_ BK232) | ((with_reducible refine gate_dst (N := 7) rfl ?_); (try (refine gate_guard (by rfl) ?_; dsimp only)); refine bE (N := 7) (cs := #[.int .i64 0, .int .i64 0, .slice none 0 0, .slice none 0 0]) (t := 72) ?_; intro gb235 hg w124 hbox hb; have hz_ := zqA HB hb; replace hb := below_step hz_ hb; have BK235 := Aside0.mk hbox; have GE235 := zG HB hz_ hg; have NB232_235 := zN BK232 hz_ hg; have NB235_232 := zM BK232 hz_ hg; have NB233_235 := zN BK233 hz_ hg; have NB235_233 := zM BK233 hz_ hg; have NB234_235 := zN BK234 hz_ hg; have NB235_234 := zM BK234 hz_ hg; replace BK232 := zB BK232 hb; replace BK233 := zB BK233 hb; replace BK234 := zB BK234 hb; replace HB := zH HB hb; clear hz_; clear hb hbox hg; obtain ⟨hnb125, hnc125⟩ := nn_ NB235_232; obtain ⟨hnb126, hnc126⟩ := nn_ NB235_233; obtain ⟨hnb127, hnc127⟩ := nn_ NB235_234; obtain ⟨hcz128_0, hcz128_1, hcz128_2, hcz128_3, hfz128_0, hfz128_1, hfz128_2, hfz128_3⟩ := e4_ BK235) | ((with_reducible refine gate_callee (f := 32) rfl ?_); refine gL (some 15) Try.func32 #[.agg #[.int .i64 a1_0, .int .i64 a1_1, .slice A0_0 l0_0.length c0_0, .slice A0_1 l0_1.length c0_1]] ?_; (with_reducible refine (journal_place_lies.calls k a1_0 a1_1 _ _ l0_0 _ _ l0_1 false _ ?side1 ?side2 ?side3 ?side4 A4.out).mono ?_); (case side1 => exact Kd.C_below HR0_0.out qH); (case side2 => exact HC0_0.out); (case side3 => exact Kd.C_below HR0_1.out qH); (case side4 => exact HC0_1.out); rintro e w129 ⟨rfl, hb⟩; refine ⟨_, rfl, ?_⟩; replace BK232 := wF BK232 hb; replace BK233 := wF BK233 hb; replace BK234 := wF BK234 hb; replace BK235 := wP4 BK235 hb; replace HB := wH hb; (try clear hb)))
  go_ret
  exact ⟨eX, qH⟩
end Go.Proofs.Ythoddglnfdmdeaa.P
