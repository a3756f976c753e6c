/- Printed functions, merged. -/
import Derived.Test.YthoddglnfdmdeaaProg
import Derived.Below
import Derived.Deep.Draws
import Derived.Deep.AppendLies
import Derived.Maps.AppendAt
import Derived.OwnWalk
import Derived.Laws.BytesArg
import Derived.Laws.MakeOwn
import Derived.Laws.OwnMore
import Derived.Deep.OwnRows
import Derived.Tactics
import Derived.Lib.ConvBytes
import Derived.Laws.Slices
import Derived.WalkKit
import Derived.KernelRfl
import Derived.RowKit3
import Derived.Deep.LoopGhost
import Derived.Deep.QuietTactic
import Derived.BigQuiet
import Derived.WideLaws
import Derived.Deep.DeepCutAuto
import Derived.Deep.CutBlock
import Derived.Deep.RegionHeld3
import Derived.Laws.Rows
import Derived.Lib.AppendStr
import Derived.ArgAppend
import Derived.Laws.IdiomCopy
import Derived.OrdersHeld
import Derived.Laws.BitsLemmas
import Derived.RowKit
import Derived.Test.YthoddglnfdmdeaaZJSWWords
import Derived.Test.YthoddglnfdmdeaaZJSWLast
import Derived.Test.YthoddglnfdmdeaaZJSWTab
import Derived.Test.YthoddglnfdmdeaaZJSWApart
import Derived.Test.YthoddglnfdmdeaaZJSWFoot
import Derived.Test.YthoddglnfdmdeaaZJSWKept
import Derived.Test.YthoddglnfdmdeaaZJSWShare
import Derived.Test.YthoddglnfdmdeaaZJSWN
import Derived.Test.YthoddglnfdmdeaaZJSWEqStruct
import Derived.Test.YthoddglnfdmdeaaZJSWRepsOne
import Derived.Test.YthoddglnfdmdeaaZJSWInv
import Derived.Test.YthoddglnfdmdeaaZJSWGuard
import Derived.Test.YthoddglnfdmdeaaZJSWMore
import Derived.Test.YthoddglnfdmdeaaZJSAl
namespace Go.Proofs.Ythoddglnfdmdeaa.P
open Go.RowKit Go.Proofs.YthoddglnfdmdeaaW.PrintWords Go.Proofs.YthoddglnfdmdeaaW.PrintLast Go.Proofs.YthoddglnfdmdeaaW.PrintMore
attribute [local go_sem] max2_int min2_int max_two min_two max_three min_three max_four min_four   -- for this text's walks alone
set_option linter.unusedVariables false
set_option linter.unusedSimpArgs false
def errW : Option Int → Value
 | none => .nilIface
 | some c => .iface 0 (.int .i64 c)
theorem errW_none : errW none = .nilIface := rfl
theorem errW_some (c : Int) : errW (some c) = .iface 0 (.int .i64 c) := rfl
theorem info4 : (Try.prog.info? 4).map (fun i => (i.zero, i.size, i.bytes)) = some (some (.bool false), 1, 1) := by kernel_rfl
theorem info5 : (Try.prog.info? 5).map (fun i => (i.zero, i.size, i.bytes)) = some (some (.int .u8 0), 1, 1) := by kernel_rfl
theorem info9 : (Try.prog.info? 9).map (fun i => (i.zero, i.size, i.bytes)) = some (some (.string ⟨#[]⟩), 1, 16) := by kernel_rfl
theorem info29 : (Try.prog.info? 29).map (fun i => (i.zero, i.size, i.bytes)) = some (some (.agg #[(.int .i64 0), (.string ⟨#[]⟩)]), 2, 24) := by kernel_rfl
theorem info85 : (Try.prog.info? 85).map (fun i => (i.zero, i.size, i.bytes)) = some (some (.agg #[(.bool false), (.int .i64 0), (.string ⟨#[]⟩)]), 3, 32) := by kernel_rfl
structure S29 where
 f0 : Int
 f1 : ByteArray
def z29 : S29 := ⟨(0 : Int), (⟨#[]⟩ : ByteArray)⟩
def k29 : Kd S29 := Kd.iso (Kd.pair (Kd.int .i64) Kd.string) (fun x : S29 => (x.f0, x.f1))
theorem k29_heap : Kd.Heap k29 := Kd.heap_iso _ (Kd.heap_pair (Kd.heap_int .i64) Kd.heap_string)
theorem k29_open {w : World} {x : S29} {cs : List Value} (h : k29.K w x cs) : cs = [.int .i64 x.f0, .string x.f1] := by
 obtain ⟨_, _, rfl, rfl, rfl⟩ := h
 exact rfl
theorem k29_mk (w : World) (x : S29)  : k29.K w x [.int .i64 x.f0, .string x.f1] := ⟨[.int .i64 x.f0], [.string x.f1], rfl, rfl, rfl⟩
theorem k29_mkM (w : World) (base : Nat) (ok : Nat → Prop) (x : S29)  : k29.M w base ok x [.int .i64 x.f0, .string x.f1] := ⟨[.int .i64 x.f0], [.string x.f1], rfl, rfl, rfl⟩
def rd_T29 (xs : List S29) (i : Int) : S29 := xs.getD i.toNat z29
theorem at_T29 {w : World} {A : Option Addr} {n : Nat} {xs : List S29} (h : Kd.C k29 w A n xs) (i : Int) (h0 : 0 ≤ i) (h1 : i < n) : ∃ ad , A = some ad ∧ w.cell? (ad.add (i.toNat * 2)) = some (.int .i64 (rd_T29 xs i).f0) ∧ w.cell? ⟨(ad.add (i.toNat * 2)).block, (ad.add (i.toNat * 2)).off + 1, none⟩ = some (.string (rd_T29 xs i).f1) := by
 obtain ⟨ad, c, e, _, hK, hc0⟩ := Kd.C_get h z29 i h0 h1
 have hc : ∀ j u, c[j]? = some u → w.cell? (ad.add (i.toNat * 2 + j)) = some u := hc0
 obtain rfl := k29_open hK
 exact ⟨ad, e, hc 0 _ rfl, by rw [← add_field _ _ 1 (by omega)]; exact hc 1 _ rfl⟩
structure S85 where
 f0 : Bool
 f1 : Int
 f2 : ByteArray
def z85 : S85 := ⟨false, (0 : Int), (⟨#[]⟩ : ByteArray)⟩
def k85 : Kd S85 := Kd.iso (Kd.pair Kd.bool (Kd.pair (Kd.int .i64) Kd.string)) (fun x : S85 => (x.f0, x.f1, x.f2))
theorem k85_open {w : World} {x : S85} {cs : List Value} (h : k85.K w x cs) : cs = [.bool x.f0, .int .i64 x.f1, .string x.f2] := by
 obtain ⟨_, _, rfl, rfl, ⟨_, _, rfl, rfl, rfl⟩⟩ := h
 exact rfl
theorem k85_mkM (w : World) (base : Nat) (ok : Nat → Prop) (x : S85)  : k85.M w base ok x [.bool x.f0, .int .i64 x.f1, .string x.f2] := ⟨[.bool x.f0], [.int .i64 x.f1, .string x.f2], rfl, rfl, ⟨[.int .i64 x.f1], [.string x.f2], rfl, rfl, rfl⟩⟩
def rd_T85 (xs : List S85) (i : Int) : S85 := xs.getD i.toNat z85
theorem at_T85 {w : World} {A : Option Addr} {n : Nat} {xs : List S85} (h : Kd.C k85 w A n xs) (i : Int) (h0 : 0 ≤ i) (h1 : i < n) : ∃ ad , A = some ad ∧ w.cell? (ad.add (i.toNat * 3)) = some (.bool (rd_T85 xs i).f0) ∧ w.cell? ⟨(ad.add (i.toNat * 3)).block, (ad.add (i.toNat * 3)).off + 1, none⟩ = some (.int .i64 (rd_T85 xs i).f1) ∧ w.cell? ⟨(ad.add (i.toNat * 3)).block, (ad.add (i.toNat * 3)).off + 2, none⟩ = some (.string (rd_T85 xs i).f2) := by
 obtain ⟨ad, c, e, _, hK, hc0⟩ := Kd.C_get h z85 i h0 h1
 have hc : ∀ j u, c[j]? = some u → w.cell? (ad.add (i.toNat * 3 + j)) = some u := hc0
 obtain rfl := k85_open hK
 exact ⟨ad, e, hc 0 _ rfl, by rw [← add_field _ _ 1 (by omega)]; exact hc 1 _ rfl, by rw [← add_field _ _ 2 (by omega)]; exact hc 2 _ rfl⟩
structure S37 where
 f0 : Int
 f1 : (List ByteArray)
 f2 : Int
def z37 : S37 := ⟨(0 : Int), ([] : List ByteArray), (0 : Int)⟩
theorem eqA73 (d : Nat) (w : World) (x0 y0 : Int) (x1 y1 : Int) (x2 y2 : Int) (x3 y3 : Int) (x4 y4 : Int) :
  (Op.equalIn (d + 2) 73 (.agg #[.int .i64 x0, .int .i64 x1, .int .i64 x2, .int .i64 x3, .int .i64 x4]) (.agg #[.int .i64 y0, .int .i64 y1, .int .i64 y2, .int .i64 y3, .int .i64 y4])).run Try.prog w = .ok (x0 == y0 && (x1 == y1 && (x2 == y2 && (x3 == y3 && (x4 == y4))))) w := by
 refine eqA_of Try.underlying73 (by kernel_rfl) ?_
 refine eqf_cons (by rfl) (by go_simp; rfl) (by go_simp; rfl) (by go_simp) ?_
 refine eqf_cons (by rfl) (by go_simp; rfl) (by go_simp; rfl) (by go_simp) ?_
 refine eqf_cons (by rfl) (by go_simp; rfl) (by go_simp; rfl) (by go_simp) ?_
 refine eqf_cons (by rfl) (by go_simp; rfl) (by go_simp; rfl) (by go_simp) ?_
 exact eqf_last (by rfl) (by go_simp; rfl) (by go_simp; rfl) (by go_simp)
def journal_in.f (a0 : Int) (a1 : Int) (a2 : Int) : Option (Bool) := if a0 ≥ a1 then (some (decide (a0 ≤ a2))) else (some false)
set_option maxHeartbeats 8000000 in
set_option maxRecDepth 100000 in
theorem journal_in.calls (a0 : Int) (a1 : Int) (a2 : Int) (r : Bool) (w : World) (h : journal_in.f a0 a1 a2 = some r) :
  Calls Try.prog 37 #[.int .i64 a0, .int .i64 a1, .int .i64 a2] w fun e w' => e = .returned (.bool r) ∧ Drawn0 w w' := by
 have H : (if a0 ≥ a1 then (some (decide (a0 ≤ a2))) else (some false)) = some r := h
 clear h
 by_cases c4 : a0 ≥ a1
 ·rw [if_pos c4] at H
  have c4b0 : decide (a1 ≤ a0) = true := decide_eq_true c4
  clear c4
  obtain rfl := Option.some.inj H
  go_enter Try.func37, Try.ntmps37
  go_wp2
  go_ret
  exact ⟨by first | rfl | (simp; done) | (simp [*]; done), by repeat (first | exact Drawn0.refl _ | apply Drawn0.step)⟩
 ·rw [if_neg c4] at H
  have c4b0 : decide (a1 ≤ a0) = false := decide_eq_false c4
  clear c4
  obtain rfl := Option.some.inj H
  go_enter Try.func37, Try.ntmps37
  go_wp2
  go_ret
  exact ⟨by first | rfl | (simp; done) | (simp [*]; done), by repeat (first | exact Drawn0.refl _ | apply Drawn0.step)⟩
def journal_Region_Check.f (a0_0 : Int) (a0_1 : Int) : Option (Bool) := (journal_in.f a0_1 2 512).bind fun t102 => (if t102 = true then ((journal_in.f a0_0 0 (wrap64 (512 - a0_1))).bind fun t103 => (some t103)) else (some false))
set_option maxHeartbeats 8000000 in
set_option maxRecDepth 100000 in
theorem journal_Region_Check.calls (a0_0 : Int) (a0_1 : Int) (r : Bool) (w : World) (h : journal_Region_Check.f a0_0 a0_1 = some r) :
  Calls Try.prog 28 #[.agg #[.int .i64 a0_0, .int .i64 a0_1]] w fun e w' => e = .returned (.bool r) ∧ Below w.heap.size w w' := by
 have hu40 := Try.underlying40
 have HB := Aside0.mk (Below.refl w.heap.size w)
 have H := h
 unfold journal_Region_Check.f at H
 clear h
 replace H := Option.bind_eq_some_iff.mp H
 obtain ⟨t102, A20, H⟩ := H
 try dsimp only at H
 have A2 := Aside0.mk A20
 clear A20
 by_cases c3 : t102 = true
 ·subst c3
  rw [if_pos rfl] at H
  replace H := Option.bind_eq_some_iff.mp H
  obtain ⟨t103, A40, H⟩ := H
  try dsimp only at H
  have A4 := Aside0.mk A40
  clear A40
  obtain rfl := Option.some.inj H
  go_enter Try.func28, Try.ntmps28
  go_wp2_with (first | ((with_reducible refine gate_dst (N := 1) rfl ?_); refine bE (N := 1) (cs := #[.int .i64 a0_0, .int .i64 a0_1]) (t := 40) ?_; intro gb101 hg w5 hbox hb; have n0_ := wH hb; have n1_ := Aside0.mk (hbox); have n2_ := Aside0.mk ((qG hg)); have n3_ := Aside0.mk ((qG hg)); clear HB; have HB := n0_; have BK101 := n1_; have GE101 := n3_; clear n0_ n1_ n2_ n3_; clear hb hbox hg; obtain ⟨hcz6_0, hcz6_1, hfz6_0, hfz6_1⟩ := e2_ BK101) | ((with_reducible refine gate_callee (f := 37) rfl ?_); refine gL (some 5) Try.func37 #[.int .i64 a0_1, .int .i64 2, .int .i64 512] ?_; (with_reducible refine (journal_in.calls a0_1 2 512 true _ A2.out).mono ?_); rintro e w' ⟨rfl, ⟨nd, rfl⟩⟩; refine ⟨_, rfl, ?_⟩) | (go_at_call 37; (with_reducible refine (journal_in.calls a0_1 2 512 true _ A2.out).mono ?_); rintro e w' ⟨rfl, ⟨nd, rfl⟩⟩) | (go_at_call 37; (with_reducible refine (journal_in.calls a0_0 0 (wrap64 (512 - a0_1)) t103 _ A4.out).mono ?_); rintro e w' ⟨rfl, ⟨nd, rfl⟩⟩))
  go_ret
  exact ⟨eX, qH⟩
 ·replace c3 := Bool.eq_false_iff.mpr c3
  subst c3
  rw [if_neg nF_] at H
  obtain rfl := Option.some.inj H
  go_enter Try.func28, Try.ntmps28
  go_wp2_with (first | ((with_reducible refine gate_dst (N := 1) rfl ?_); refine bE (N := 1) (cs := #[.int .i64 a0_0, .int .i64 a0_1]) (t := 40) ?_; intro gb101 hg w7 hbox hb; have n0_ := wH hb; have n1_ := Aside0.mk (hbox); have n2_ := Aside0.mk ((qG hg)); have n3_ := Aside0.mk ((qG hg)); clear HB; have HB := n0_; have BK101 := n1_; have GE101 := n3_; clear n0_ n1_ n2_ n3_; clear hb hbox hg; obtain ⟨hcz8_0, hcz8_1, hfz8_0, hfz8_1⟩ := e2_ BK101) | ((with_reducible refine gate_callee (f := 37) rfl ?_); refine gL (some 5) Try.func37 #[.int .i64 a0_1, .int .i64 2, .int .i64 512] ?_; (with_reducible refine (journal_in.calls a0_1 2 512 false _ A2.out).mono ?_); rintro e w' ⟨rfl, ⟨nd, rfl⟩⟩; refine ⟨_, rfl, ?_⟩) | (go_at_call 37; (with_reducible refine (journal_in.calls a0_1 2 512 false _ A2.out).mono ?_); rintro e w' ⟨rfl, ⟨nd, rfl⟩⟩))
  go_ret
  exact ⟨eX, qH⟩
def journal_Region_end.f (a0_0 : Int) (a0_1 : Int) : Option (Int) := some (wrap64 (a0_0 + a0_1))
set_option maxHeartbeats 8000000 in
set_option maxRecDepth 100000 in
theorem journal_Region_end.calls (a0_0 : Int) (a0_1 : Int) (r : Int) (w : World) (h : journal_Region_end.f a0_0 a0_1 = some r) :
  Calls Try.prog 35 #[.agg #[.int .i64 a0_0, .int .i64 a0_1]] w fun e w' => e = .returned (.int .i64 r) ∧ Below w.heap.size w w' := by
 have hu40 := Try.underlying40
 have HB := Aside0.mk (Below.refl w.heap.size w)
 have H : (some (wrap64 (a0_0 + a0_1))) = some r := h
 clear h
 obtain rfl := Option.some.inj H
 go_enter Try.func35, Try.ntmps35
 go_wp2_with (first | ((with_reducible refine gate_dst (N := 1) rfl ?_); refine bE (N := 1) (cs := #[.int .i64 a0_0, .int .i64 a0_1]) (t := 40) ?_; intro gb104 hg w2 hbox hb; have n0_ := wH hb; have n1_ := Aside0.mk (hbox); have n2_ := Aside0.mk ((qG hg)); have n3_ := Aside0.mk ((qG hg)); clear HB; have HB := n0_; have BK104 := n1_; have GE104 := n3_; clear n0_ n1_ n2_ n3_; clear hb hbox hg; obtain ⟨hcz3_0, hcz3_1, hfz3_0, hfz3_1⟩ := e2_ BK104))
 go_ret
 exact ⟨eX, qH⟩
mutual
def armadaref01_Small.l0 : Nat → Int → List ByteArray → List (S29) → Option (Bool)
 | 0, _, _, _ => none
 | k + 1, x3, x106000, x106001 => if x3 < (x106000.length : Int) then (if 0 ≤ x3 then (if ((rdOf ByteArray.empty x106000 x3).size : Int) > 100 then (some false) else (if (x106000.length : Int) > 600 then (some false) else (armadaref01_Small.l0 k (wrap64 (x3 + 1)) x106000 x106001))) else (none)) else (armadaref01_Small.l1 k 0 x106000 x106001)
def armadaref01_Small.l1 : Nat → Int → List ByteArray → List (S29) → Option (Bool)
 | 0, _, _, _ => none
 | k + 1, x4, x106000, x106001 => if x4 < (x106001.length : Int) then (if 0 ≤ x4 then (if (((rd_T29 x106001 x4).f1).size : Int) > 100 then (some false) else (if (x106001.length : Int) > 200 then (some false) else (armadaref01_Small.l1 k (wrap64 (x4 + 1)) x106000 x106001))) else (none)) else (some true)
end
def armadaref01_Small.f (k : Nat) (l0_0 : List ByteArray) (l0_1 : List (S29)) : Option (Bool) := armadaref01_Small.l0 k 0 l0_0 l0_1
theorem armadaref01_Small.mono_l : ∀ k, (∀ y0 y1 y2, LeO (armadaref01_Small.l0 k y0 y1 y2) (armadaref01_Small.l0 (k + 1) y0 y1 y2)) ∧ (∀ y0 y1 y2, LeO (armadaref01_Small.l1 k y0 y1 y2) (armadaref01_Small.l1 (k + 1) y0 y1 y2))
 | 0 => ⟨fun _ _ _ r h => by simp [armadaref01_Small.l0] at h, fun _ _ _ r h => by simp [armadaref01_Small.l1] at h⟩
 | k + 1 => by
  obtain ⟨ih0, ih1⟩ := armadaref01_Small.mono_l k
  refine ⟨?_, ?_⟩
  ·intro y0 y1 y2
   unfold armadaref01_Small.l0
   repeat' first
   | (with_reducible exact ih0 _ _ _)
   | (with_reducible exact ih1 _ _ _)
   | (with_reducible exact LeO.refl _)
   | (with_reducible exact LeO.none _)
   | (with_reducible refine LeO.ite ?_ ?_)
   | (with_reducible refine LeO.bind ?_ (fun _ => ?_))
   | exact ih0 _ _ _
   | exact ih1 _ _ _
   | exact LeO.none _
   | refine LeO.ite ?_ ?_
   | refine LeO.bind ?_ (fun _ => ?_)
  ·intro y0 y1 y2
   unfold armadaref01_Small.l1
   repeat' first
   | (with_reducible exact ih0 _ _ _)
   | (with_reducible exact ih1 _ _ _)
   | (with_reducible exact LeO.refl _)
   | (with_reducible exact LeO.none _)
   | (with_reducible refine LeO.ite ?_ ?_)
   | (with_reducible refine LeO.bind ?_ (fun _ => ?_))
   | exact ih0 _ _ _
   | exact ih1 _ _ _
   | exact LeO.none _
   | refine LeO.ite ?_ ?_
   | refine LeO.bind ?_ (fun _ => ?_)
theorem armadaref01_Small.mono : ∀ a0 a1 k, LeO (armadaref01_Small.f k a0 a1) (armadaref01_Small.f (k + 1) a0 a1) := by
 intro a0 a1 k
 obtain ⟨ih0, ih1⟩ := armadaref01_Small.mono_l k
 unfold armadaref01_Small.f
 repeat' first
   | (with_reducible exact ih0 _ _ _)
   | (with_reducible exact ih1 _ _ _)
   | (with_reducible exact LeO.refl _)
   | (with_reducible exact LeO.none _)
   | (with_reducible refine LeO.ite ?_ ?_)
   | (with_reducible refine LeO.bind ?_ (fun _ => ?_))
   | exact ih0 _ _ _
   | exact ih1 _ _ _
   | exact LeO.none _
   | refine LeO.ite ?_ ?_
   | refine LeO.bind ?_ (fun _ => ?_)
set_option maxHeartbeats 8000000 in
set_option maxRecDepth 100000 in
theorem armadaref01_Small.calls (k : Nat) (A0_0 : Option Addr) (c0_0 : Nat) (l0_0 : List ByteArray) (A0_1 : Option Addr) (c0_1 : Nat) (l0_1 : List (S29)) (r : Bool) (w : World) (hr0_0 : Kd.C Kd.string w A0_0 l0_0.length l0_0) (hc0_0 : l0_0.length ≤ c0_0) (hr0_1 : Kd.C k29 w A0_1 l0_1.length l0_1) (hc0_1 : l0_1.length ≤ c0_1) (h : armadaref01_Small.f k l0_0 l0_1 = some r) :
  Calls Try.prog 7 #[.agg #[.slice A0_0 l0_0.length c0_0, .slice A0_1 l0_1.length c0_1]] w fun e w' => e = .returned (.bool r) ∧ Below w.heap.size w w' := by
 have hu25 := Try.underlying25
 have HR0_0 := Aside0.mk hr0_0
 have HC0_0 := Aside0.mk hc0_0
 clear hr0_0 hc0_0
 have HR0_1 := Aside0.mk hr0_1
 have HC0_1 := Aside0.mk hc0_1
 clear hr0_1 hc0_1
 have HB := Aside0.mk (Below.refl w.heap.size w)
 have H : (armadaref01_Small.l0 k 0 l0_0 l0_1) = some r := h
 clear h
 have H' := Aside0.mk H
 clear H
 go_enter Try.func7, Try.ntmps7
 go_wp2_with (first | ((with_reducible refine gate_dst (N := 1) rfl ?_); (try (refine gate_guard (by rfl) ?_; dsimp only)); refine bE (N := 1) (cs := #[.slice A0_0 l0_0.length c0_0, .slice A0_1 l0_1.length c0_1]) (t := 25) ?_; intro gb105 hg w2 hbox hb; have n0_ := wH hb; have n1_ := Aside0.mk (hbox); have n2_ := Aside0.mk ((qG hg)); have n3_ := Aside0.mk ((qG hg)); clear HB; have HB := n0_; have BK105 := n1_; have GE105 := n3_; clear n0_ n1_ n2_ n3_; clear hb hbox hg))
 go_loopg [3] k (fun kq v3 w' => ∃ (x3_1 : Int), v3 = .int .i64 x3_1 ∧ Aside0 (armadaref01_Small.l0 kq x3_1 l0_0 l0_1 = some r) ∧ Aside0 (kq ≤ k) ∧ Aside0 (w'.heap[gb105]? = some (.cells #[(.slice A0_0 l0_0.length c0_0), (.slice A0_1 l0_1.length c0_1)] 25 (0, 0))) ∧ Aside0 (Below w.heap.size w w'))
 case atStart => exact ⟨(0), eY, H', ⟨Nat.le_refl _⟩, ⟨qB BK105⟩, ⟨qH⟩⟩
 case round =>
  clear H'
  (try clear p2)
  obtain ⟨x3_1, rfl, HA, HK1, BK105, HB⟩ := hrel
  cases gk with
  | zero => exact absurd HA.out (by simp [armadaref01_Small.l0])
  | succ k1 =>
   have H := HA.out
   clear HA
   simp only [armadaref01_Small.l0] at H
   by_cases c3 : x3_1 < (l0_0.length : Int)
   ·rw [if_pos c3] at H
    have c3b0 : decide (x3_1 < (l0_0.length : Int)) = true := decide_eq_true c3
    clear c3
    by_cases c4 : 0 ≤ x3_1
    ·rw [if_pos c4] at H
     have c4b0 : decide (0 ≤ x3_1) = true := decide_eq_true c4
     clear c4
     by_cases c5 : ((rdOf ByteArray.empty l0_0 x3_1).size : Int) > 100
     ·rw [if_pos c5] at H
      have c5b0 : decide (100 < ((rdOf ByteArray.empty l0_0 x3_1).size : Int)) = true := decide_eq_true c5
      have c5b1 : decide (100 < (rdOf ByteArray.empty l0_0 x3_1).size) = true := decide_eq_true (by omega)
      clear c5
      obtain rfl := Option.some.inj H
      obtain ⟨hcz6_0, hcz6_1, hfz6_0, hfz6_1⟩ := e2_ BK105
      have p106 : 0 ≤ (x3_1 : Int) := of_decide_eq_true aS
      have q106 : x3_1 < (l0_0.length : Int) := of_decide_eq_true aS
      obtain ⟨ad106, e106, hx106_0⟩ := Kd.at_string HR0_0.out x3_1 p106 q106
      cases e106
      replace hx106_0 := (HB.out.cell (World.block_lt_of_cell? w _ hx106_0)).trans hx106_0
      replace p106 := eq_true p106
      replace q106 := eq_true q106
      go_wp2
      go_ret
      exact ⟨eX, qH⟩
     ·rw [if_neg c5] at H
      have c5b0 : decide (100 < ((rdOf ByteArray.empty l0_0 x3_1).size : Int)) = false := decide_eq_false c5
      have c5b1 : decide (100 < (rdOf ByteArray.empty l0_0 x3_1).size) = false := decide_eq_false (by omega)
      clear c5
      by_cases c7 : (l0_0.length : Int) > 600
      ·rw [if_pos c7] at H
       have c7b0 : decide (600 < (l0_0.length : Int)) = true := decide_eq_true c7
       have c7b1 : decide (600 < l0_0.length) = true := decide_eq_true (by omega)
       clear c7
       obtain rfl := Option.some.inj H
       obtain ⟨hcz8_0, hcz8_1, hfz8_0, hfz8_1⟩ := e2_ BK105
       have p106 : 0 ≤ (x3_1 : Int) := of_decide_eq_true aS
       have q106 : x3_1 < (l0_0.length : Int) := of_decide_eq_true aS
       obtain ⟨ad106, e106, hx106_0⟩ := Kd.at_string HR0_0.out x3_1 p106 q106
       cases e106
       replace hx106_0 := (HB.out.cell (World.block_lt_of_cell? w _ hx106_0)).trans hx106_0
       replace p106 := eq_true p106
       replace q106 := eq_true q106
       go_wp2
       go_ret
       exact ⟨eX, qH⟩
      ·rw [if_neg c7] at H
       have c7b0 : decide (600 < (l0_0.length : Int)) = false := decide_eq_false c7
       have c7b1 : decide (600 < l0_0.length) = false := decide_eq_false (by omega)
       clear c7
       have H' := Aside0.mk H
       clear H
       obtain ⟨hcz9_0, hcz9_1, hfz9_0, hfz9_1⟩ := e2_ BK105
       have p106 : 0 ≤ (x3_1 : Int) := of_decide_eq_true aS
       have q106 : x3_1 < (l0_0.length : Int) := of_decide_eq_true aS
       obtain ⟨ad106, e106, hx106_0⟩ := Kd.at_string HR0_0.out x3_1 p106 q106
       cases e106
       replace hx106_0 := (HB.out.cell (World.block_lt_of_cell? w _ hx106_0)).trans hx106_0
       replace p106 := eq_true p106
       replace q106 := eq_true q106
       go_wp2
       go_roundg k1
       case measure => have := HK1.out; omega
       case rel => exact ⟨(wrap64 (x3_1 + 1)), eY, H', ⟨by have := HK1.out; omega⟩, ⟨qB BK105⟩, ⟨qH⟩⟩
    ·rw [if_neg c4] at H
     exact absurd H (by simp)
   ·rw [if_neg c3] at H
    have c3b0 : decide (x3_1 < (l0_0.length : Int)) = false := decide_eq_false c3
    clear c3
    have H' := Aside0.mk H
    clear H
    obtain ⟨hcz10_0, hcz10_1, hfz10_0, hfz10_1⟩ := e2_ BK105
    go_wp2
    go_loopg [4] k1 (fun kq v4 w' => ∃ (x4_2 : Int), v4 = .int .i64 x4_2 ∧ Aside0 (armadaref01_Small.l1 kq x4_2 l0_0 l0_1 = some r) ∧ Aside0 (kq ≤ k1) ∧ Aside0 (w'.heap[gb105]? = some (.cells #[(.slice A0_0 l0_0.length c0_0), (.slice A0_1 l0_1.length c0_1)] 25 (0, 0))) ∧ Aside0 (Below w.heap.size w w'))
    case atStart => exact ⟨(0), eY, H', ⟨Nat.le_refl _⟩, ⟨qB BK105⟩, ⟨qH⟩⟩
    case round =>
     clear H'
     (try clear p1); (try clear q1); (try clear p2); (try clear c3b0); (try clear p6); (try clear p10); (try clear q10); (try clear hcz10_0); (try clear hcz10_1)
     (try clear hfz10_0); (try clear hfz10_1); (try clear p106); (try clear p2); (try clear q106)
     obtain ⟨x4_2, rfl, HA, HK2, BK105, HB⟩ := hrel
     cases gk with
     | zero => exact absurd HA.out (by simp [armadaref01_Small.l1])
     | succ k2 =>
      have H := HA.out
      clear HA
      simp only [armadaref01_Small.l1] at H
      by_cases c11 : x4_2 < (l0_1.length : Int)
      ·rw [if_pos c11] at H
       have c11b0 : decide (x4_2 < (l0_1.length : Int)) = true := decide_eq_true c11
       clear c11
       by_cases c12 : 0 ≤ x4_2
       ·rw [if_pos c12] at H
        have c12b0 : decide (0 ≤ x4_2) = true := decide_eq_true c12
        clear c12
        by_cases c13 : (((rd_T29 l0_1 x4_2).f1).size : Int) > 100
        ·rw [if_pos c13] at H
         have c13b0 : decide (100 < (((rd_T29 l0_1 x4_2).f1).size : Int)) = true := decide_eq_true c13
         have c13b1 : decide (100 < ((rd_T29 l0_1 x4_2).f1).size) = true := decide_eq_true (by omega)
         clear c13
         obtain rfl := Option.some.inj H
         obtain ⟨hcz14_0, hcz14_1, hfz14_0, hfz14_1⟩ := e2_ BK105
         have p107 : 0 ≤ (x4_2 : Int) := of_decide_eq_true aS
         have q107 : x4_2 < (l0_1.length : Int) := of_decide_eq_true aS
         obtain ⟨ad107, e107, hx107_0, hx107_1⟩ := at_T29 HR0_1.out x4_2 p107 q107
         cases e107
         replace hx107_0 := (HB.out.cell (World.block_lt_of_cell? w _ hx107_0)).trans hx107_0
         replace hx107_1 := (HB.out.cell (World.block_lt_of_cell? w _ hx107_1)).trans hx107_1
         replace p107 := eq_true p107
         replace q107 := eq_true q107
         go_wp2
         go_ret
         exact ⟨eX, qH⟩
        ·rw [if_neg c13] at H
         have c13b0 : decide (100 < (((rd_T29 l0_1 x4_2).f1).size : Int)) = false := decide_eq_false c13
         have c13b1 : decide (100 < ((rd_T29 l0_1 x4_2).f1).size) = false := decide_eq_false (by omega)
         clear c13
         by_cases c15 : (l0_1.length : Int) > 200
         ·rw [if_pos c15] at H
          have c15b0 : decide (200 < (l0_1.length : Int)) = true := decide_eq_true c15
          have c15b1 : decide (200 < l0_1.length) = true := decide_eq_true (by omega)
          clear c15
          obtain rfl := Option.some.inj H
          obtain ⟨hcz16_0, hcz16_1, hfz16_0, hfz16_1⟩ := e2_ BK105
          have p107 : 0 ≤ (x4_2 : Int) := of_decide_eq_true aS
          have q107 : x4_2 < (l0_1.length : Int) := of_decide_eq_true aS
          obtain ⟨ad107, e107, hx107_0, hx107_1⟩ := at_T29 HR0_1.out x4_2 p107 q107
          cases e107
          replace hx107_0 := (HB.out.cell (World.block_lt_of_cell? w _ hx107_0)).trans hx107_0
          replace hx107_1 := (HB.out.cell (World.block_lt_of_cell? w _ hx107_1)).trans hx107_1
          replace p107 := eq_true p107
          replace q107 := eq_true q107
          go_wp2
          go_ret
          exact ⟨eX, qH⟩
         ·rw [if_neg c15] at H
          have c15b0 : decide (200 < (l0_1.length : Int)) = false := decide_eq_false c15
          have c15b1 : decide (200 < l0_1.length) = false := decide_eq_false (by omega)
          clear c15
          have H' := Aside0.mk H
          clear H
          obtain ⟨hcz17_0, hcz17_1, hfz17_0, hfz17_1⟩ := e2_ BK105
          have p107 : 0 ≤ (x4_2 : Int) := of_decide_eq_true aS
          have q107 : x4_2 < (l0_1.length : Int) := of_decide_eq_true aS
          obtain ⟨ad107, e107, hx107_0, hx107_1⟩ := at_T29 HR0_1.out x4_2 p107 q107
          cases e107
          replace hx107_0 := (HB.out.cell (World.block_lt_of_cell? w _ hx107_0)).trans hx107_0
          replace hx107_1 := (HB.out.cell (World.block_lt_of_cell? w _ hx107_1)).trans hx107_1
          replace p107 := eq_true p107
          replace q107 := eq_true q107
          go_wp2
          go_roundg k2
          case measure => have := HK1.out; have := HK2.out; omega
          case rel => exact ⟨(wrap64 (x4_2 + 1)), eY, H', ⟨by have := HK1.out; have := HK2.out; omega⟩, ⟨qB BK105⟩, ⟨qH⟩⟩
       ·rw [if_neg c12] at H
        exact absurd H (by simp)
      ·rw [if_neg c11] at H
       have c11b0 : decide (x4_2 < (l0_1.length : Int)) = false := decide_eq_false c11
       clear c11
       obtain rfl := Option.some.inj H
       obtain ⟨hcz18_0, hcz18_1, hfz18_0, hfz18_1⟩ := e2_ BK105
       go_wp2
       go_ret
       exact ⟨eX, qH⟩
def armadaref04_Check.f (a0_0 : Int) (a0_1 : Int) : Option (Bool) := if a0_0 ≥ 0 then (if a0_1 ≥ 2 then (if a0_1 ≤ 512 then (some (decide (a0_0 ≤ (wrap64 (512 - a0_1))))) else (some false)) else (some false)) else (some false)
set_option maxHeartbeats 8000000 in
set_option maxRecDepth 100000 in
theorem armadaref04_Check.calls (a0_0 : Int) (a0_1 : Int) (r : Bool) (w : World) (h : armadaref04_Check.f a0_0 a0_1 = some r) :
  Calls Try.prog 24 #[.agg #[.int .i64 a0_0, .int .i64 a0_1]] w fun e w' => e = .returned (.bool r) ∧ Below w.heap.size w w' := by
 have hu27 := Try.underlying27
 have HB := Aside0.mk (Below.refl w.heap.size w)
 have H := h
 unfold armadaref04_Check.f at H
 clear h
 by_cases c2 : a0_0 ≥ 0
 ·rw [if_pos c2] at H
  have c2b0 : decide (0 ≤ a0_0) = true := decide_eq_true c2
  clear c2
  by_cases c3 : a0_1 ≥ 2
  ·rw [if_pos c3] at H
   have c3b0 : decide (2 ≤ a0_1) = true := decide_eq_true c3
   clear c3
   by_cases c4 : a0_1 ≤ 512
   ·rw [if_pos c4] at H
    have c4b0 : decide (a0_1 ≤ 512) = true := decide_eq_true c4
    clear c4
    obtain rfl := Option.some.inj H
    go_enter Try.func24, Try.ntmps24
    go_wp2_with (first | ((with_reducible refine gate_dst (N := 1) rfl ?_); refine bE (N := 1) (cs := #[.int .i64 a0_0, .int .i64 a0_1]) (t := 27) ?_; intro gb108 hg w5 hbox hb; have n0_ := wH hb; have n1_ := Aside0.mk (hbox); have n2_ := Aside0.mk ((qG hg)); have n3_ := Aside0.mk ((qG hg)); clear HB; have HB := n0_; have BK108 := n1_; have GE108 := n3_; clear n0_ n1_ n2_ n3_; clear hb hbox hg; obtain ⟨hcz6_0, hcz6_1, hfz6_0, hfz6_1⟩ := e2_ BK108))
    go_ret
    exact ⟨eX, qH⟩
   ·rw [if_neg c4] at H
    have c4b0 : decide (a0_1 ≤ 512) = false := decide_eq_false c4
    clear c4
    obtain rfl := Option.some.inj H
    go_enter Try.func24, Try.ntmps24
    go_wp2_with (first | ((with_reducible refine gate_dst (N := 1) rfl ?_); refine bE (N := 1) (cs := #[.int .i64 a0_0, .int .i64 a0_1]) (t := 27) ?_; intro gb108 hg w7 hbox hb; have n0_ := wH hb; have n1_ := Aside0.mk (hbox); have n2_ := Aside0.mk ((qG hg)); have n3_ := Aside0.mk ((qG hg)); clear HB; have HB := n0_; have BK108 := n1_; have GE108 := n3_; clear n0_ n1_ n2_ n3_; clear hb hbox hg; obtain ⟨hcz8_0, hcz8_1, hfz8_0, hfz8_1⟩ := e2_ BK108))
    go_ret
    exact ⟨eX, qH⟩
  ·rw [if_neg c3] at H
   have c3b0 : decide (2 ≤ a0_1) = false := decide_eq_false c3
   clear c3
   obtain rfl := Option.some.inj H
   go_enter Try.func24, Try.ntmps24
   go_wp2_with (first | ((with_reducible refine gate_dst (N := 1) rfl ?_); refine bE (N := 1) (cs := #[.int .i64 a0_0, .int .i64 a0_1]) (t := 27) ?_; intro gb108 hg w9 hbox hb; have n0_ := wH hb; have n1_ := Aside0.mk (hbox); have n2_ := Aside0.mk ((qG hg)); have n3_ := Aside0.mk ((qG hg)); clear HB; have HB := n0_; have BK108 := n1_; have GE108 := n3_; clear n0_ n1_ n2_ n3_; clear hb hbox hg; obtain ⟨hcz10_0, hcz10_1, hfz10_0, hfz10_1⟩ := e2_ BK108))
   go_ret
   exact ⟨eX, qH⟩
 ·rw [if_neg c2] at H
  have c2b0 : decide (0 ≤ a0_0) = false := decide_eq_false c2
  clear c2
  obtain rfl := Option.some.inj H
  go_enter Try.func24, Try.ntmps24
  go_wp2_with (first | ((with_reducible refine gate_dst (N := 1) rfl ?_); refine bE (N := 1) (cs := #[.int .i64 a0_0, .int .i64 a0_1]) (t := 27) ?_; intro gb108 hg w11 hbox hb; have n0_ := wH hb; have n1_ := Aside0.mk (hbox); have n2_ := Aside0.mk ((qG hg)); have n3_ := Aside0.mk ((qG hg)); clear HB; have HB := n0_; have BK108 := n1_; have GE108 := n3_; clear n0_ n1_ n2_ n3_; clear hb hbox hg; obtain ⟨hcz12_0, hcz12_1, hfz12_0, hfz12_1⟩ := e2_ BK108))
  go_ret
  exact ⟨eX, qH⟩
mutual
def armadaref01_May.l0 : Nat → Int → List ByteArray → List (S29) → Option (Bool)
 | 0, _, _, _ => none
 | k + 1, x3, x110000, x110001 => if x3 < (x110000.length : Int) then (if 0 ≤ x3 then (if ((rdOf ByteArray.empty x110000 x3).size : Int) = 32 then (armadaref01_May.l0 k (wrap64 (x3 + 1)) x110000 x110001) else (some false)) else (none)) else (armadaref01_May.l1 k 0 x110000 x110001)
def armadaref01_May.l1 : Nat → Int → List ByteArray → List (S29) → Option (Bool)
 | 0, _, _, _ => none
 | k + 1, x4, x110000, x110001 => if x4 < (x110001.length : Int) then (if 0 ≤ x4 then (if ((rd_T29 x110001 x4).f0) < 0 then (some false) else (if ((rd_T29 x110001 x4).f0) ≥ (x110000.length : Int) then (some false) else (if (((rd_T29 x110001 x4).f1).size : Int) = 32 then (armadaref01_May.l1 k (wrap64 (x4 + 1)) x110000 x110001) else (some false)))) else (none)) else (if (x110000.length : Int) ≥ 1 then (some (decide ((x110000.length : Int) ≤ 512))) else (some false))
end
def armadaref01_May.f (k : Nat) (l0_0 : List ByteArray) (l0_1 : List (S29)) : Option (Bool) := armadaref01_May.l0 k 0 l0_0 l0_1
theorem armadaref01_May.mono_l : ∀ k, (∀ y0 y1 y2, LeO (armadaref01_May.l0 k y0 y1 y2) (armadaref01_May.l0 (k + 1) y0 y1 y2)) ∧ (∀ y0 y1 y2, LeO (armadaref01_May.l1 k y0 y1 y2) (armadaref01_May.l1 (k + 1) y0 y1 y2))
 | 0 => ⟨fun _ _ _ r h => by simp [armadaref01_May.l0] at h, fun _ _ _ r h => by simp [armadaref01_May.l1] at h⟩
 | k + 1 => by
  obtain ⟨ih0, ih1⟩ := armadaref01_May.mono_l k
  refine ⟨?_, ?_⟩
  ·intro y0 y1 y2
   unfold armadaref01_May.l0
   repeat' first
   | (with_reducible exact ih0 _ _ _)
   | (with_reducible exact ih1 _ _ _)
   | (with_reducible exact LeO.refl _)
   | (with_reducible exact LeO.none _)
   | (with_reducible refine LeO.ite ?_ ?_)
   | (with_reducible refine LeO.bind ?_ (fun _ => ?_))
   | exact ih0 _ _ _
   | exact ih1 _ _ _
   | exact LeO.none _
   | refine LeO.ite ?_ ?_
   | refine LeO.bind ?_ (fun _ => ?_)
  ·intro y0 y1 y2
   unfold armadaref01_May.l1
   repeat' first
   | (with_reducible exact ih0 _ _ _)
   | (with_reducible exact ih1 _ _ _)
   | (with_reducible exact LeO.refl _)
   | (with_reducible exact LeO.none _)
   | (with_reducible refine LeO.ite ?_ ?_)
   | (with_reducible refine LeO.bind ?_ (fun _ => ?_))
   | exact ih0 _ _ _
   | exact ih1 _ _ _
   | exact LeO.none _
   | refine LeO.ite ?_ ?_
   | refine LeO.bind ?_ (fun _ => ?_)
theorem armadaref01_May.mono : ∀ a0 a1 k, LeO (armadaref01_May.f k a0 a1) (armadaref01_May.f (k + 1) a0 a1) := by
 intro a0 a1 k
 obtain ⟨ih0, ih1⟩ := armadaref01_May.mono_l k
 unfold armadaref01_May.f
 repeat' first
   | (with_reducible exact ih0 _ _ _)
   | (with_reducible exact ih1 _ _ _)
   | (with_reducible exact LeO.refl _)
   | (with_reducible exact LeO.none _)
   | (with_reducible refine LeO.ite ?_ ?_)
   | (with_reducible refine LeO.bind ?_ (fun _ => ?_))
   | exact ih0 _ _ _
   | exact ih1 _ _ _
   | exact LeO.none _
   | refine LeO.ite ?_ ?_
   | refine LeO.bind ?_ (fun _ => ?_)
set_option maxHeartbeats 8000000 in
set_option maxRecDepth 100000 in
theorem armadaref01_May.calls (k : Nat) (A0_0 : Option Addr) (c0_0 : Nat) (l0_0 : List ByteArray) (A0_1 : Option Addr) (c0_1 : Nat) (l0_1 : List (S29)) (r : Bool) (w : World) (hr0_0 : Kd.C Kd.string w A0_0 l0_0.length l0_0) (hc0_0 : l0_0.length ≤ c0_0) (hr0_1 : Kd.C k29 w A0_1 l0_1.length l0_1) (hc0_1 : l0_1.length ≤ c0_1) (h : armadaref01_May.f k l0_0 l0_1 = some r) :
  Calls Try.prog 25 #[.agg #[.slice A0_0 l0_0.length c0_0, .slice A0_1 l0_1.length c0_1]] w fun e w' => e = .returned (.bool r) ∧ Below w.heap.size w w' := by
 have hu25 := Try.underlying25
 have HR0_0 := Aside0.mk hr0_0
 have HC0_0 := Aside0.mk hc0_0
 clear hr0_0 hc0_0
 have HR0_1 := Aside0.mk hr0_1
 have HC0_1 := Aside0.mk hc0_1
 clear hr0_1 hc0_1
 have HB := Aside0.mk (Below.refl w.heap.size w)
 have H : (armadaref01_May.l0 k 0 l0_0 l0_1) = some r := h
 clear h
 have H' := Aside0.mk H
 clear H
 go_enter Try.func25, Try.ntmps25
 go_wp2_with (first | ((with_reducible refine gate_dst (N := 1) rfl ?_); (try (refine gate_guard (by rfl) ?_; dsimp only)); refine bE (N := 1) (cs := #[.slice A0_0 l0_0.length c0_0, .slice A0_1 l0_1.length c0_1]) (t := 25) ?_; intro gb109 hg w2 hbox hb; have n0_ := wH hb; have n1_ := Aside0.mk (hbox); have n2_ := Aside0.mk ((qG hg)); have n3_ := Aside0.mk ((qG hg)); clear HB; have HB := n0_; have BK109 := n1_; have GE109 := n3_; clear n0_ n1_ n2_ n3_; clear hb hbox hg))
 repeat (go_quiet (first | ((with_reducible refine gate_dst (N := 1) rfl ?_); (try (refine gate_guard (by rfl) ?_; dsimp only)); refine bE (N := 1) (cs := #[.slice A0_0 l0_0.length c0_0, .slice A0_1 l0_1.length c0_1]) (t := 25) ?_; intro gb109 hg w2 hbox hb; have n0_ := wH hb; have n1_ := Aside0.mk (hbox); have n2_ := Aside0.mk ((qG hg)); have n3_ := Aside0.mk ((qG hg)); clear HB; have HB := n0_; have BK109 := n1_; have GE109 := n3_; clear n0_ n1_ n2_ n3_; clear hb hbox hg)); try go_wp2_with (first | ((with_reducible refine gate_dst (N := 1) rfl ?_); (try (refine gate_guard (by rfl) ?_; dsimp only)); refine bE (N := 1) (cs := #[.slice A0_0 l0_0.length c0_0, .slice A0_1 l0_1.length c0_1]) (t := 25) ?_; intro gb109 hg w2 hbox hb; have n0_ := wH hb; have n1_ := Aside0.mk (hbox); have n2_ := Aside0.mk ((qG hg)); have n3_ := Aside0.mk ((qG hg)); clear HB; have HB := n0_; have BK109 := n1_; have GE109 := n3_; clear n0_ n1_ n2_ n3_; clear hb hbox hg)))
 go_loopg [3] k (fun kq v3 w' => ∃ (x3_1 : Int), v3 = .int .i64 x3_1 ∧ Aside0 (armadaref01_May.l0 kq x3_1 l0_0 l0_1 = some r) ∧ Aside0 (kq ≤ k) ∧ Aside0 (w'.heap[gb109]? = some (.cells #[(.slice A0_0 l0_0.length c0_0), (.slice A0_1 l0_1.length c0_1)] 25 (0, 0))) ∧ Aside0 (Below w.heap.size w w'))
 case atStart => exact ⟨(0), eY, H', ⟨Nat.le_refl _⟩, ⟨qB BK109⟩, ⟨qH⟩⟩
 case round =>
  clear H'
  (try clear p2)
  obtain ⟨x3_1, rfl, HA, HK1, BK109, HB⟩ := hrel
  cases gk with
  | zero => exact absurd HA.out (by simp [armadaref01_May.l0])
  | succ k1 =>
   have H := HA.out
   clear HA
   simp only [armadaref01_May.l0] at H
   by_cases c3 : x3_1 < (l0_0.length : Int)
   ·rw [if_pos c3] at H
    have c3b0 : decide (x3_1 < (l0_0.length : Int)) = true := decide_eq_true c3
    clear c3
    by_cases c4 : 0 ≤ x3_1
    ·rw [if_pos c4] at H
     have c4b0 : decide (0 ≤ x3_1) = true := decide_eq_true c4
     clear c4
     by_cases c5 : ((rdOf ByteArray.empty l0_0 x3_1).size : Int) = 32
     ·rw [if_pos c5] at H
      have c5b0 : (((rdOf ByteArray.empty l0_0 x3_1).size : Int) == 32) = true := beq_iff_eq.mpr c5
      have c5b1 : (((rdOf ByteArray.empty l0_0 x3_1).size : Int) != 32) = false := bne_eq_false_iff_eq.mpr c5
      clear c5
      have H' := Aside0.mk H
      clear H
      obtain ⟨hcz6_0, hcz6_1, hfz6_0, hfz6_1⟩ := e2_ BK109
      have p110 : 0 ≤ (x3_1 : Int) := of_decide_eq_true aS
      have q110 : x3_1 < (l0_0.length : Int) := of_decide_eq_true aS
      obtain ⟨ad110, e110, hx110_0⟩ := Kd.at_string HR0_0.out x3_1 p110 q110
      cases e110
      replace hx110_0 := (HB.out.cell (World.block_lt_of_cell? w _ hx110_0)).trans hx110_0
      replace p110 := eq_true p110
      replace q110 := eq_true q110
      go_wp2
      repeat (go_quiet (fail); try go_wp2)
      go_roundg k1
      case measure => have := HK1.out; omega
      case rel => exact ⟨(wrap64 (x3_1 + 1)), eY, H', ⟨by have := HK1.out; omega⟩, ⟨qB BK109⟩, ⟨qH⟩⟩
     ·rw [if_neg c5] at H
      have c5b0 : (((rdOf ByteArray.empty l0_0 x3_1).size : Int) == 32) = false := beq_eq_false_iff_ne.mpr c5
      have c5b1 : (((rdOf ByteArray.empty l0_0 x3_1).size : Int) != 32) = true := bne_iff_ne.mpr c5
      obtain rfl := Option.some.inj H
      obtain ⟨hcz7_0, hcz7_1, hfz7_0, hfz7_1⟩ := e2_ BK109
      have p110 : 0 ≤ (x3_1 : Int) := of_decide_eq_true aS
      have q110 : x3_1 < (l0_0.length : Int) := of_decide_eq_true aS
      obtain ⟨ad110, e110, hx110_0⟩ := Kd.at_string HR0_0.out x3_1 p110 q110
      cases e110
      replace hx110_0 := (HB.out.cell (World.block_lt_of_cell? w _ hx110_0)).trans hx110_0
      replace p110 := eq_true p110
      replace q110 := eq_true q110
      go_wp2
      repeat (go_quiet (fail); try go_wp2)
      go_ret
      exact ⟨eX, qH⟩
    ·rw [if_neg c4] at H
     exact absurd H (by simp)
   ·rw [if_neg c3] at H
    have c3b0 : decide (x3_1 < (l0_0.length : Int)) = false := decide_eq_false c3
    clear c3
    have H' := Aside0.mk H
    clear H
    obtain ⟨hcz8_0, hcz8_1, hfz8_0, hfz8_1⟩ := e2_ BK109
    go_wp2
    repeat (go_quiet (fail); try go_wp2)
    go_loopg [4] k1 (fun kq v4 w' => ∃ (x4_2 : Int), v4 = .int .i64 x4_2 ∧ Aside0 (armadaref01_May.l1 kq x4_2 l0_0 l0_1 = some r) ∧ Aside0 (kq ≤ k1) ∧ Aside0 (w'.heap[gb109]? = some (.cells #[(.slice A0_0 l0_0.length c0_0), (.slice A0_1 l0_1.length c0_1)] 25 (0, 0))) ∧ Aside0 (Below w.heap.size w w'))
    case atStart => exact ⟨(0), eY, H', ⟨Nat.le_refl _⟩, ⟨qB BK109⟩, ⟨qH⟩⟩
    case round =>
     clear H'
     (try clear p1); (try clear q1); (try clear p2); (try clear c3b0); (try clear p6); (try clear hcz8_0); (try clear hcz8_1); (try clear hfz8_0); (try clear hfz8_1)
     (try clear p110); (try clear p2); (try clear q110)
     obtain ⟨x4_2, rfl, HA, HK2, BK109, HB⟩ := hrel
     cases gk with
     | zero => exact absurd HA.out (by simp [armadaref01_May.l1])
     | succ k2 =>
      have H := HA.out
      clear HA
      simp only [armadaref01_May.l1] at H
      by_cases c9 : x4_2 < (l0_1.length : Int)
      ·rw [if_pos c9] at H
       have c9b0 : decide (x4_2 < (l0_1.length : Int)) = true := decide_eq_true c9
       clear c9
       by_cases c10 : 0 ≤ x4_2
       ·rw [if_pos c10] at H
        have c10b0 : decide (0 ≤ x4_2) = true := decide_eq_true c10
        clear c10
        by_cases c11 : ((rd_T29 l0_1 x4_2).f0) < 0
        ·rw [if_pos c11] at H
         have c11b0 : decide (((rd_T29 l0_1 x4_2).f0) < 0) = true := decide_eq_true c11
         clear c11
         obtain rfl := Option.some.inj H
         obtain ⟨hcz12_0, hcz12_1, hfz12_0, hfz12_1⟩ := e2_ BK109
         have p111 : 0 ≤ (x4_2 : Int) := of_decide_eq_true aS
         have q111 : x4_2 < (l0_1.length : Int) := of_decide_eq_true aS
         obtain ⟨ad111, e111, hx111_0, hx111_1⟩ := at_T29 HR0_1.out x4_2 p111 q111
         cases e111
         replace hx111_0 := (HB.out.cell (World.block_lt_of_cell? w _ hx111_0)).trans hx111_0
         replace hx111_1 := (HB.out.cell (World.block_lt_of_cell? w _ hx111_1)).trans hx111_1
         replace p111 := eq_true p111
         replace q111 := eq_true q111
         go_wp2
         repeat (go_quiet (fail); try go_wp2)
         go_ret
         exact ⟨eX, qH⟩
        ·rw [if_neg c11] at H
         have c11b0 : decide (((rd_T29 l0_1 x4_2).f0) < 0) = false := decide_eq_false c11
         clear c11
         by_cases c13 : ((rd_T29 l0_1 x4_2).f0) ≥ (l0_0.length : Int)
         ·rw [if_pos c13] at H
          have c13b0 : decide ((l0_0.length : Int) ≤ ((rd_T29 l0_1 x4_2).f0)) = true := decide_eq_true c13
          clear c13
          obtain rfl := Option.some.inj H
          obtain ⟨hcz14_0, hcz14_1, hfz14_0, hfz14_1⟩ := e2_ BK109
          have p111 : 0 ≤ (x4_2 : Int) := of_decide_eq_true aS
          have q111 : x4_2 < (l0_1.length : Int) := of_decide_eq_true aS
          obtain ⟨ad111, e111, hx111_0, hx111_1⟩ := at_T29 HR0_1.out x4_2 p111 q111
          cases e111
          replace hx111_0 := (HB.out.cell (World.block_lt_of_cell? w _ hx111_0)).trans hx111_0
          replace hx111_1 := (HB.out.cell (World.block_lt_of_cell? w _ hx111_1)).trans hx111_1
          replace p111 := eq_true p111
          replace q111 := eq_true q111
          have p112 : 0 ≤ (x4_2 : Int) := of_decide_eq_true aS
          have q112 : x4_2 < (l0_1.length : Int) := of_decide_eq_true aS
          obtain ⟨ad112, e112, hx112_0, hx112_1⟩ := at_T29 HR0_1.out x4_2 p112 q112
          obtain rfl : ad111 = ad112 := (by injection e112)
          replace hx112_0 := (HB.out.cell (World.block_lt_of_cell? w _ hx112_0)).trans hx112_0
          replace hx112_1 := (HB.out.cell (World.block_lt_of_cell? w _ hx112_1)).trans hx112_1
          replace p112 := eq_true p112
          replace q112 := eq_true q112
          go_wp2
          repeat (go_quiet (fail); try go_wp2)
          go_ret
          exact ⟨eX, qH⟩
         ·rw [if_neg c13] at H
          have c13b0 : decide ((l0_0.length : Int) ≤ ((rd_T29 l0_1 x4_2).f0)) = false := decide_eq_false c13
          clear c13
          by_cases c15 : (((rd_T29 l0_1 x4_2).f1).size : Int) = 32
          ·rw [if_pos c15] at H
           have c15b0 : ((((rd_T29 l0_1 x4_2).f1).size : Int) == 32) = true := beq_iff_eq.mpr c15
           have c15b1 : ((((rd_T29 l0_1 x4_2).f1).size : Int) != 32) = false := bne_eq_false_iff_eq.mpr c15
           clear c15
           have H' := Aside0.mk H
           clear H
           obtain ⟨hcz16_0, hcz16_1, hfz16_0, hfz16_1⟩ := e2_ BK109
           have p111 : 0 ≤ (x4_2 : Int) := of_decide_eq_true aS
           have q111 : x4_2 < (l0_1.length : Int) := of_decide_eq_true aS
           obtain ⟨ad111, e111, hx111_0, hx111_1⟩ := at_T29 HR0_1.out x4_2 p111 q111
           cases e111
           replace hx111_0 := (HB.out.cell (World.block_lt_of_cell? w _ hx111_0)).trans hx111_0
           replace hx111_1 := (HB.out.cell (World.block_lt_of_cell? w _ hx111_1)).trans hx111_1
           replace p111 := eq_true p111
           replace q111 := eq_true q111
           have p112 : 0 ≤ (x4_2 : Int) := of_decide_eq_true aS
           have q112 : x4_2 < (l0_1.length : Int) := of_decide_eq_true aS
           obtain ⟨ad112, e112, hx112_0, hx112_1⟩ := at_T29 HR0_1.out x4_2 p112 q112
           obtain rfl : ad111 = ad112 := (by injection e112)
           replace hx112_0 := (HB.out.cell (World.block_lt_of_cell? w _ hx112_0)).trans hx112_0
           replace hx112_1 := (HB.out.cell (World.block_lt_of_cell? w _ hx112_1)).trans hx112_1
           replace p112 := eq_true p112
           replace q112 := eq_true q112
           have p113 : 0 ≤ (x4_2 : Int) := of_decide_eq_true aS
           have q113 : x4_2 < (l0_1.length : Int) := of_decide_eq_true aS
           obtain ⟨ad113, e113, hx113_0, hx113_1⟩ := at_T29 HR0_1.out x4_2 p113 q113
           obtain rfl : ad111 = ad113 := (by injection e113)
           replace hx113_0 := (HB.out.cell (World.block_lt_of_cell? w _ hx113_0)).trans hx113_0
           replace hx113_1 := (HB.out.cell (World.block_lt_of_cell? w _ hx113_1)).trans hx113_1
           replace p113 := eq_true p113
           replace q113 := eq_true q113
           go_wp2
           repeat (go_quiet (fail); try go_wp2)
           go_roundg k2
           case measure => have := HK1.out; have := HK2.out; omega
           case rel => exact ⟨(wrap64 (x4_2 + 1)), eY, H', ⟨by have := HK1.out; have := HK2.out; omega⟩, ⟨qB BK109⟩, ⟨qH⟩⟩
          ·rw [if_neg c15] at H
           have c15b0 : ((((rd_T29 l0_1 x4_2).f1).size : Int) == 32) = false := beq_eq_false_iff_ne.mpr c15
           have c15b1 : ((((rd_T29 l0_1 x4_2).f1).size : Int) != 32) = true := bne_iff_ne.mpr c15
           obtain rfl := Option.some.inj H
           obtain ⟨hcz17_0, hcz17_1, hfz17_0, hfz17_1⟩ := e2_ BK109
           have p111 : 0 ≤ (x4_2 : Int) := of_decide_eq_true aS
           have q111 : x4_2 < (l0_1.length : Int) := of_decide_eq_true aS
           obtain ⟨ad111, e111, hx111_0, hx111_1⟩ := at_T29 HR0_1.out x4_2 p111 q111
           cases e111
           replace hx111_0 := (HB.out.cell (World.block_lt_of_cell? w _ hx111_0)).trans hx111_0
           replace hx111_1 := (HB.out.cell (World.block_lt_of_cell? w _ hx111_1)).trans hx111_1
           replace p111 := eq_true p111
           replace q111 := eq_true q111
           have p112 : 0 ≤ (x4_2 : Int) := of_decide_eq_true aS
           have q112 : x4_2 < (l0_1.length : Int) := of_decide_eq_true aS
           obtain ⟨ad112, e112, hx112_0, hx112_1⟩ := at_T29 HR0_1.out x4_2 p112 q112
           obtain rfl : ad111 = ad112 := (by injection e112)
           replace hx112_0 := (HB.out.cell (World.block_lt_of_cell? w _ hx112_0)).trans hx112_0
           replace hx112_1 := (HB.out.cell (World.block_lt_of_cell? w _ hx112_1)).trans hx112_1
           replace p112 := eq_true p112
           replace q112 := eq_true q112
           have p113 : 0 ≤ (x4_2 : Int) := of_decide_eq_true aS
           have q113 : x4_2 < (l0_1.length : Int) := of_decide_eq_true aS
           obtain ⟨ad113, e113, hx113_0, hx113_1⟩ := at_T29 HR0_1.out x4_2 p113 q113
           obtain rfl : ad111 = ad113 := (by injection e113)
           replace hx113_0 := (HB.out.cell (World.block_lt_of_cell? w _ hx113_0)).trans hx113_0
           replace hx113_1 := (HB.out.cell (World.block_lt_of_cell? w _ hx113_1)).trans hx113_1
           replace p113 := eq_true p113
           replace q113 := eq_true q113
           go_wp2
           repeat (go_quiet (fail); try go_wp2)
           go_ret
           exact ⟨eX, qH⟩
       ·rw [if_neg c10] at H
        exact absurd H (by simp)
      ·rw [if_neg c9] at H
       have c9b0 : decide (x4_2 < (l0_1.length : Int)) = false := decide_eq_false c9
       clear c9
       by_cases c18 : (l0_0.length : Int) ≥ 1
       ·rw [if_pos c18] at H
        have c18b0 : decide (1 ≤ (l0_0.length : Int)) = true := decide_eq_true c18
        have c18b1 : decide (1 ≤ l0_0.length) = true := decide_eq_true (by omega)
        clear c18
        obtain rfl := Option.some.inj H
        obtain ⟨hcz19_0, hcz19_1, hfz19_0, hfz19_1⟩ := e2_ BK109
        go_wp2
        repeat (go_quiet (fail); try go_wp2)
        go_ret
        exact ⟨eX, qH⟩
       ·rw [if_neg c18] at H
        have c18b0 : decide (1 ≤ (l0_0.length : Int)) = false := decide_eq_false c18
        have c18b1 : decide (1 ≤ l0_0.length) = false := decide_eq_false (by omega)
        clear c18
        obtain rfl := Option.some.inj H
        obtain ⟨hcz20_0, hcz20_1, hfz20_0, hfz20_1⟩ := e2_ BK109
        go_wp2
        repeat (go_quiet (fail); try go_wp2)
        go_ret
        exact ⟨eX, qH⟩
def armadaref04_Lies.f (k : Nat) (l0_0 : List ByteArray) (l0_1 : List (S29)) (a1_0 : Int) (a1_1 : Int) : Option (Bool) := (armadaref04_Check.f a1_0 a1_1).bind fun t116 => (if t116 = true then ((armadaref01_May.f k l0_0 l0_1).bind fun t117 => (if t117 = true then (some (decide ((wrap64 (a1_0 + a1_1)) ≤ (l0_0.length : Int)))) else (some false))) else (some false))
theorem armadaref04_Lies.mono : ∀ a0 a1 a2 a3 k, LeO (armadaref04_Lies.f k a0 a1 a2 a3) (armadaref04_Lies.f (k + 1) a0 a1 a2 a3) := by
 intro a0 a1 a2 a3 k
 unfold armadaref04_Lies.f
 repeat' first
   | (with_reducible exact armadaref01_May.mono _ _ _)
   | (with_reducible exact LeO.refl _)
   | (with_reducible exact LeO.none _)
   | (with_reducible refine LeO.ite ?_ ?_)
   | (with_reducible refine LeO.bind ?_ (fun _ => ?_))
   | exact armadaref01_May.mono _ _ _
   | exact LeO.none _
   | refine LeO.ite ?_ ?_
   | refine LeO.bind ?_ (fun _ => ?_)
set_option maxHeartbeats 8000000 in
set_option maxRecDepth 100000 in
theorem armadaref04_Lies.calls (k : Nat) (A0_0 : Option Addr) (c0_0 : Nat) (l0_0 : List ByteArray) (A0_1 : Option Addr) (c0_1 : Nat) (l0_1 : List (S29)) (a1_0 : Int) (a1_1 : Int) (r : Bool) (w : World) (hr0_0 : Kd.C Kd.string w A0_0 l0_0.length l0_0) (hc0_0 : l0_0.length ≤ c0_0) (hr0_1 : Kd.C k29 w A0_1 l0_1.length l0_1) (hc0_1 : l0_1.length ≤ c0_1) (h : armadaref04_Lies.f k l0_0 l0_1 a1_0 a1_1 = some r) :
  Calls Try.prog 8 #[.agg #[.slice A0_0 l0_0.length c0_0, .slice A0_1 l0_1.length c0_1], .agg #[.int .i64 a1_0, .int .i64 a1_1]] w fun e w' => e = .returned (.bool r) ∧ Below w.heap.size w w' := by
 have hu25 := Try.underlying25
 have hu27 := Try.underlying27
 have HR0_0 := Aside0.mk hr0_0
 have HC0_0 := Aside0.mk hc0_0
 clear hr0_0 hc0_0
 have HR0_1 := Aside0.mk hr0_1
 have HC0_1 := Aside0.mk hc0_1
 clear hr0_1 hc0_1
 have HB := Aside0.mk (Below.refl w.heap.size w)
 have H := h
 unfold armadaref04_Lies.f at H
 clear h
 replace H := Option.bind_eq_some_iff.mp H
 obtain ⟨t116, A30, H⟩ := H
 try dsimp only at H
 have A3 := Aside0.mk A30
 clear A30
 by_cases c4 : t116 = true
 ·subst c4
  rw [if_pos rfl] at H
  replace H := Option.bind_eq_some_iff.mp H
  obtain ⟨t117, A50, H⟩ := H
  try dsimp only at H
  have A5 := Aside0.mk A50
  clear A50
  by_cases c6 : t117 = true
  ·subst c6
   rw [if_pos rfl] at H
   obtain rfl := Option.some.inj H
   go_enter Try.func8, Try.ntmps8
   go_wp2_with (first | ((with_reducible refine gate_dst (N := 2) rfl ?_); (try (refine gate_guard (by rfl) ?_; dsimp only)); refine bE (N := 2) (cs := #[.slice A0_0 l0_0.length c0_0, .slice A0_1 l0_1.length c0_1]) (t := 25) ?_; intro gb114 hg w7 hbox hb; have n0_ := wH hb; have n1_ := Aside0.mk (hbox); have n2_ := Aside0.mk ((qG hg)); have n3_ := Aside0.mk ((qG hg)); clear HB; have HB := n0_; have BK114 := n1_; have GE114 := n3_; clear n0_ n1_ n2_ n3_; clear hb hbox hg) | ((with_reducible refine gate_dst (N := 3) rfl ?_); (try (refine gate_guard (by rfl) ?_; dsimp only)); refine bE (N := 3) (cs := #[.int .i64 a1_0, .int .i64 a1_1]) (t := 27) ?_; intro gb115 hg w8 hbox hb; have n0_ := wB BK114 hb; have n1_ := wH hb; have n2_ := Aside0.mk (hbox); have n3_ := Aside0.mk ((qG hg)); have n4_ := Aside0.mk ((qG hg)); have n5_ := Aside0.mk ((by rw [hg]; exact Nat.ne_of_lt (blk_lt (g := gb114) (o := .cells #[.slice A0_0 l0_0.length c0_0, .slice A0_1 l0_1.length c0_1] 25 (0, 0)) (qB BK114)) : gb114 ≠ gb115)); have n6_ := Aside0.mk ((by rw [hg]; exact Nat.ne_of_gt (blk_lt (g := gb114) (o := .cells #[.slice A0_0 l0_0.length c0_0, .slice A0_1 l0_1.length c0_1] 25 (0, 0)) (qB BK114)) : gb115 ≠ gb114)); clear BK114; clear HB; have BK114 := n0_; have HB := n1_; have BK115 := n2_; have GE115 := n4_; have NB114_115 := n5_; have NB115_114 := n6_; clear n0_ n1_ n2_ n3_ n4_ n5_ n6_; clear hb hbox hg; obtain ⟨hnb9, hnc9⟩ := nn_ NB115_114; obtain ⟨hcz10_0, hcz10_1, hfz10_0, hfz10_1⟩ := e2_ BK115) | ((with_reducible refine gate_callee (f := 24) rfl ?_); refine gL (some 6) Try.func24 #[.agg #[.int .i64 a1_0, .int .i64 a1_1]] ?_; (with_reducible refine (armadaref04_Check.calls a1_0 a1_1 true _ A3.out).mono ?_); rintro e w11 ⟨rfl, hb⟩; refine ⟨_, rfl, ?_⟩; have n0_ := wB BK114 hb; have n1_ := wB BK115 hb; have n2_ := wH hb; clear BK114; clear BK115; clear HB; have BK114 := n0_; have BK115 := n1_; have HB := n2_; clear n0_ n1_ n2_; (try clear hb); (try clear hb2); (try clear hk); (try clear hi); obtain ⟨hcz12_0, hcz12_1, hfz12_0, hfz12_1⟩ := e2_ BK114) | (go_at_call 25; (with_reducible refine (armadaref01_May.calls k _ _ l0_0 _ _ l0_1 true _ ?side1 ?side2 ?side3 ?side4 A5.out).mono ?_); (case side1 => exact qC HR0_0); (case side2 => exact HC0_0.out); (case side3 => exact qC HR0_1); (case side4 => exact HC0_1.out); rintro e w13 ⟨rfl, hb⟩; have n0_ := wB BK114 hb; have n1_ := wB BK115 hb; have n2_ := wH hb; clear BK114; clear BK115; clear HB; have BK114 := n0_; have BK115 := n1_; have HB := n2_; clear n0_ n1_ n2_; (try clear hb); (try clear hb2); (try clear hk); (try clear hi); obtain ⟨hcz14_0, hcz14_1, hfz14_0, hfz14_1⟩ := e2_ BK115; obtain ⟨hcz15_0, hcz15_1, hfz15_0, hfz15_1⟩ := e2_ BK114))
   go_ret
   exact ⟨eX, qH⟩
  ·replace c6 := Bool.eq_false_iff.mpr c6
   subst c6
   rw [if_neg nF_] at H
   obtain rfl := Option.some.inj H
   go_enter Try.func8, Try.ntmps8
   go_wp2_with (first | ((with_reducible refine gate_dst (N := 2) rfl ?_); (try (refine gate_guard (by rfl) ?_; dsimp only)); refine bE (N := 2) (cs := #[.slice A0_0 l0_0.length c0_0, .slice A0_1 l0_1.length c0_1]) (t := 25) ?_; intro gb114 hg w16 hbox hb; have n0_ := wH hb; have n1_ := Aside0.mk (hbox); have n2_ := Aside0.mk ((qG hg)); have n3_ := Aside0.mk ((qG hg)); clear HB; have HB := n0_; have BK114 := n1_; have GE114 := n3_; clear n0_ n1_ n2_ n3_; clear hb hbox hg) | ((with_reducible refine gate_dst (N := 3) rfl ?_); (try (refine gate_guard (by rfl) ?_; dsimp only)); refine bE (N := 3) (cs := #[.int .i64 a1_0, .int .i64 a1_1]) (t := 27) ?_; intro gb115 hg w17 hbox hb; have n0_ := wB BK114 hb; have n1_ := wH hb; have n2_ := Aside0.mk (hbox); have n3_ := Aside0.mk ((qG hg)); have n4_ := Aside0.mk ((qG hg)); have n5_ := Aside0.mk ((by rw [hg]; exact Nat.ne_of_lt (blk_lt (g := gb114) (o := .cells #[.slice A0_0 l0_0.length c0_0, .slice A0_1 l0_1.length c0_1] 25 (0, 0)) (qB BK114)) : gb114 ≠ gb115)); have n6_ := Aside0.mk ((by rw [hg]; exact Nat.ne_of_gt (blk_lt (g := gb114) (o := .cells #[.slice A0_0 l0_0.length c0_0, .slice A0_1 l0_1.length c0_1] 25 (0, 0)) (qB BK114)) : gb115 ≠ gb114)); clear BK114; clear HB; have BK114 := n0_; have HB := n1_; have BK115 := n2_; have GE115 := n4_; have NB114_115 := n5_; have NB115_114 := n6_; clear n0_ n1_ n2_ n3_ n4_ n5_ n6_; clear hb hbox hg; obtain ⟨hnb18, hnc18⟩ := nn_ NB115_114; obtain ⟨hcz19_0, hcz19_1, hfz19_0, hfz19_1⟩ := e2_ BK115) | ((with_reducible refine gate_callee (f := 24) rfl ?_); refine gL (some 6) Try.func24 #[.agg #[.int .i64 a1_0, .int .i64 a1_1]] ?_; (with_reducible refine (armadaref04_Check.calls a1_0 a1_1 true _ A3.out).mono ?_); rintro e w20 ⟨rfl, hb⟩; refine ⟨_, rfl, ?_⟩; have n0_ := wB BK114 hb; have n1_ := wB BK115 hb; have n2_ := wH hb; clear BK114; clear BK115; clear HB; have BK114 := n0_; have BK115 := n1_; have HB := n2_; clear n0_ n1_ n2_; (try clear hb); (try clear hb2); (try clear hk); (try clear hi); obtain ⟨hcz21_0, hcz21_1, hfz21_0, hfz21_1⟩ := e2_ BK114) | (go_at_call 25; (with_reducible refine (armadaref01_May.calls k _ _ l0_0 _ _ l0_1 false _ ?side1 ?side2 ?side3 ?side4 A5.out).mono ?_); (case side1 => exact qC HR0_0); (case side2 => exact HC0_0.out); (case side3 => exact qC HR0_1); (case side4 => exact HC0_1.out); rintro e w22 ⟨rfl, hb⟩; have n0_ := wB BK114 hb; have n1_ := wB BK115 hb; have n2_ := wH hb; clear BK114; clear BK115; clear HB; have BK114 := n0_; have BK115 := n1_; have HB := n2_; clear n0_ n1_ n2_; (try clear hb); (try clear hb2); (try clear hk); (try clear hi)))
   go_ret
   exact ⟨eX, qH⟩
 ·replace c4 := Bool.eq_false_iff.mpr c4
  subst c4
  rw [if_neg nF_] at H
  obtain rfl := Option.some.inj H
  go_enter Try.func8, Try.ntmps8
  go_wp2_with (first | ((with_reducible refine gate_dst (N := 2) rfl ?_); (try (refine gate_guard (by rfl) ?_; dsimp only)); refine bE (N := 2) (cs := #[.slice A0_0 l0_0.length c0_0, .slice A0_1 l0_1.length c0_1]) (t := 25) ?_; intro gb114 hg w23 hbox hb; have n0_ := wH hb; have n1_ := Aside0.mk (hbox); have n2_ := Aside0.mk ((qG hg)); have n3_ := Aside0.mk ((qG hg)); clear HB; have HB := n0_; have BK114 := n1_; have GE114 := n3_; clear n0_ n1_ n2_ n3_; clear hb hbox hg) | ((with_reducible refine gate_dst (N := 3) rfl ?_); (try (refine gate_guard (by rfl) ?_; dsimp only)); refine bE (N := 3) (cs := #[.int .i64 a1_0, .int .i64 a1_1]) (t := 27) ?_; intro gb115 hg w24 hbox hb; have n0_ := wB BK114 hb; have n1_ := wH hb; have n2_ := Aside0.mk (hbox); have n3_ := Aside0.mk ((qG hg)); have n4_ := Aside0.mk ((qG hg)); have n5_ := Aside0.mk ((by rw [hg]; exact Nat.ne_of_lt (blk_lt (g := gb114) (o := .cells #[.slice A0_0 l0_0.length c0_0, .slice A0_1 l0_1.length c0_1] 25 (0, 0)) (qB BK114)) : gb114 ≠ gb115)); have n6_ := Aside0.mk ((by rw [hg]; exact Nat.ne_of_gt (blk_lt (g := gb114) (o := .cells #[.slice A0_0 l0_0.length c0_0, .slice A0_1 l0_1.length c0_1] 25 (0, 0)) (qB BK114)) : gb115 ≠ gb114)); clear BK114; clear HB; have BK114 := n0_; have HB := n1_; have BK115 := n2_; have GE115 := n4_; have NB114_115 := n5_; have NB115_114 := n6_; clear n0_ n1_ n2_ n3_ n4_ n5_ n6_; clear hb hbox hg; obtain ⟨hnb25, hnc25⟩ := nn_ NB115_114; obtain ⟨hcz26_0, hcz26_1, hfz26_0, hfz26_1⟩ := e2_ BK115) | ((with_reducible refine gate_callee (f := 24) rfl ?_); refine gL (some 6) Try.func24 #[.agg #[.int .i64 a1_0, .int .i64 a1_1]] ?_; (with_reducible refine (armadaref04_Check.calls a1_0 a1_1 false _ A3.out).mono ?_); rintro e w27 ⟨rfl, hb⟩; refine ⟨_, rfl, ?_⟩; have n0_ := wB BK114 hb; have n1_ := wB BK115 hb; have n2_ := wH hb; clear BK114; clear BK115; clear HB; have BK114 := n0_; have BK115 := n1_; have HB := n2_; clear n0_ n1_ n2_; (try clear hb); (try clear hb2); (try clear hk); (try clear hi)))
  go_ret
  exact ⟨eX, qH⟩
def disk_is.f (l0_0 : List ByteArray) (l0_1 : List (S29)) (a1 : Int) : Option (Bool) := if a1 ≥ 0 then (some (decide (a1 < (l0_0.length : Int)))) else (some false)
set_option maxHeartbeats 8000000 in
set_option maxRecDepth 100000 in
theorem disk_is.calls (A0_0 : Option Addr) (c0_0 : Nat) (l0_0 : List ByteArray) (A0_1 : Option Addr) (c0_1 : Nat) (l0_1 : List (S29)) (a1 : Int) (r : Bool) (w : World) (hr0_0 : Kd.C Kd.string w A0_0 l0_0.length l0_0) (hc0_0 : l0_0.length ≤ c0_0) (hr0_1 : Kd.C k29 w A0_1 l0_1.length l0_1) (hc0_1 : l0_1.length ≤ c0_1) (h : disk_is.f l0_0 l0_1 a1 = some r) :
  Calls Try.prog 30 #[.agg #[.slice A0_0 l0_0.length c0_0, .slice A0_1 l0_1.length c0_1], .int .i64 a1] w fun e w' => e = .returned (.bool r) ∧ Below w.heap.size w w' := by
 have hu25 := Try.underlying25
 have HR0_0 := Aside0.mk hr0_0
 have HC0_0 := Aside0.mk hc0_0
 clear hr0_0 hc0_0
 have HR0_1 := Aside0.mk hr0_1
 have HC0_1 := Aside0.mk hc0_1
 clear hr0_1 hc0_1
 have HB := Aside0.mk (Below.refl w.heap.size w)
 have H : (if a1 ≥ 0 then (some (decide (a1 < (l0_0.length : Int)))) else (some false)) = some r := h
 clear h
 by_cases c3 : a1 ≥ 0
 ·rw [if_pos c3] at H
  have c3b0 : decide (0 ≤ a1) = true := decide_eq_true c3
  clear c3
  obtain rfl := Option.some.inj H
  go_enter Try.func30, Try.ntmps30
  go_wp2_with (first | ((with_reducible refine gate_dst (N := 2) rfl ?_); (try (refine gate_guard (by rfl) ?_; dsimp only)); refine bE (N := 2) (cs := #[.slice A0_0 l0_0.length c0_0, .slice A0_1 l0_1.length c0_1]) (t := 25) ?_; intro gb118 hg w4 hbox hb; have n0_ := wH hb; have n1_ := Aside0.mk (hbox); have n2_ := Aside0.mk ((qG hg)); have n3_ := Aside0.mk ((qG hg)); clear HB; have HB := n0_; have BK118 := n1_; have GE118 := n3_; clear n0_ n1_ n2_ n3_; clear hb hbox hg; obtain ⟨hcz5_0, hcz5_1, hfz5_0, hfz5_1⟩ := e2_ BK118))
  go_ret
  exact ⟨eX, qH⟩
 ·rw [if_neg c3] at H
  have c3b0 : decide (0 ≤ a1) = false := decide_eq_false c3
  clear c3
  obtain rfl := Option.some.inj H
  go_enter Try.func30, Try.ntmps30
  go_wp2_with (first | ((with_reducible refine gate_dst (N := 2) rfl ?_); (try (refine gate_guard (by rfl) ?_; dsimp only)); refine bE (N := 2) (cs := #[.slice A0_0 l0_0.length c0_0, .slice A0_1 l0_1.length c0_1]) (t := 25) ?_; intro gb118 hg w6 hbox hb; have n0_ := wH hb; have n1_ := Aside0.mk (hbox); have n2_ := Aside0.mk ((qG hg)); have n3_ := Aside0.mk ((qG hg)); clear HB; have HB := n0_; have BK118 := n1_; have GE118 := n3_; clear n0_ n1_ n2_ n3_; clear hb hbox hg))
  go_ret
  exact ⟨eX, qH⟩
mutual
def disk_May.j0 : Nat → Bool → List ByteArray → List (S29) → Option (Bool)
 | 0, _, _, _ => none
 | k + 1, x16, x120000, x120001 => if x16 = true then (some false) else (disk_May.l0 k x120000 (x120000.length : Int) 0 x120000 x120001)
def disk_May.l0 : Nat → List ByteArray → Int → Int → List ByteArray → List (S29) → Option (Bool)
 | 0, _, _, _, _, _ => none
 | k + 1, x18, x19, x20, x120000, x120001 => if x20 < x19 then (if 0 ≤ x20 then (if x20 < (x18.length : Int) then (if ((rdOf ByteArray.empty x18 x20).size : Int) = 32 then (disk_May.l0 k x18 x19 (wrap64 (x20 + 1)) x120000 x120001) else (some false)) else (none)) else (none)) else (disk_May.l1 k x120001 (x120001.length : Int) 0 x120000 x120001)
def disk_May.l1 : Nat → List (S29) → Int → Int → List ByteArray → List (S29) → Option (Bool)
 | 0, _, _, _, _, _ => none
 | k + 1, x29, x30, x31, x120000, x120001 => if x31 < x30 then (if 0 ≤ x31 then (if x31 < (x29.length : Int) then ((disk_is.f x120000 x120001 ((rd_T29 x29 x31).f0)).bind fun t123 => (if t123 = true then (if (((rd_T29 x29 x31).f1).size : Int) = 32 then (disk_May.l1 k x29 x30 (wrap64 (x31 + 1)) x120000 x120001) else (some false)) else (some false))) else (none)) else (none)) else (some true)
end
def disk_May.f (k : Nat) (l0_0 : List ByteArray) (l0_1 : List (S29)) : Option (Bool) := if (l0_0.length : Int) < 1 then (disk_May.j0 k true l0_0 l0_1) else (disk_May.j0 k (decide ((l0_0.length : Int) > 512)) l0_0 l0_1)
theorem disk_May.mono_l : ∀ k, (∀ y0 y1 y2, LeO (disk_May.j0 k y0 y1 y2) (disk_May.j0 (k + 1) y0 y1 y2)) ∧ (∀ y0 y1 y2 y3 y4, LeO (disk_May.l0 k y0 y1 y2 y3 y4) (disk_May.l0 (k + 1) y0 y1 y2 y3 y4)) ∧ (∀ y0 y1 y2 y3 y4, LeO (disk_May.l1 k y0 y1 y2 y3 y4) (disk_May.l1 (k + 1) y0 y1 y2 y3 y4))
 | 0 => ⟨fun _ _ _ r h => by simp [disk_May.j0] at h, fun _ _ _ _ _ r h => by simp [disk_May.l0] at h, fun _ _ _ _ _ r h => by simp [disk_May.l1] at h⟩
 | k + 1 => by
  obtain ⟨ih0, ih1, ih2⟩ := disk_May.mono_l k
  refine ⟨?_, ?_, ?_⟩
  ·intro y0 y1 y2
   unfold disk_May.j0
   repeat' first
   | (with_reducible exact ih0 _ _ _)
   | (with_reducible exact ih1 _ _ _ _ _)
   | (with_reducible exact ih2 _ _ _ _ _)
   | (with_reducible exact LeO.refl _)
   | (with_reducible exact LeO.none _)
   | (with_reducible refine LeO.ite ?_ ?_)
   | (with_reducible refine LeO.bind ?_ (fun _ => ?_))
   | exact ih0 _ _ _
   | exact ih1 _ _ _ _ _
   | exact ih2 _ _ _ _ _
   | exact LeO.none _
   | refine LeO.ite ?_ ?_
   | refine LeO.bind ?_ (fun _ => ?_)
  ·intro y0 y1 y2 y3 y4
   unfold disk_May.l0
   repeat' first
   | (with_reducible exact ih0 _ _ _)
   | (with_reducible exact ih1 _ _ _ _ _)
   | (with_reducible exact ih2 _ _ _ _ _)
   | (with_reducible exact LeO.refl _)
   | (with_reducible exact LeO.none _)
   | (with_reducible refine LeO.ite ?_ ?_)
   | (with_reducible refine LeO.bind ?_ (fun _ => ?_))
   | exact ih0 _ _ _
   | exact ih1 _ _ _ _ _
   | exact ih2 _ _ _ _ _
   | exact LeO.none _
   | refine LeO.ite ?_ ?_
   | refine LeO.bind ?_ (fun _ => ?_)
  ·intro y0 y1 y2 y3 y4
   unfold disk_May.l1
   repeat' first
   | (with_reducible exact ih0 _ _ _)
   | (with_reducible exact ih1 _ _ _ _ _)
   | (with_reducible exact ih2 _ _ _ _ _)
   | (with_reducible exact LeO.refl _)
   | (with_reducible exact LeO.none _)
   | (with_reducible refine LeO.ite ?_ ?_)
   | (with_reducible refine LeO.bind ?_ (fun _ => ?_))
   | exact ih0 _ _ _
   | exact ih1 _ _ _ _ _
   | exact ih2 _ _ _ _ _
   | exact LeO.none _
   | refine LeO.ite ?_ ?_
   | refine LeO.bind ?_ (fun _ => ?_)
theorem disk_May.mono : ∀ a0 a1 k, LeO (disk_May.f k a0 a1) (disk_May.f (k + 1) a0 a1) := by
 intro a0 a1 k
 obtain ⟨ih0, ih1, ih2⟩ := disk_May.mono_l k
 unfold disk_May.f
 repeat' first
   | (with_reducible exact ih0 _ _ _)
   | (with_reducible exact ih1 _ _ _ _ _)
   | (with_reducible exact ih2 _ _ _ _ _)
   | (with_reducible exact LeO.refl _)
   | (with_reducible exact LeO.none _)
   | (with_reducible refine LeO.ite ?_ ?_)
   | (with_reducible refine LeO.bind ?_ (fun _ => ?_))
   | exact ih0 _ _ _
   | exact ih1 _ _ _ _ _
   | exact ih2 _ _ _ _ _
   | exact LeO.none _
   | refine LeO.ite ?_ ?_
   | refine LeO.bind ?_ (fun _ => ?_)
set_option maxHeartbeats 8000000 in
set_option maxRecDepth 100000 in
theorem disk_May.calls (k : Nat) (A0_0 : Option Addr) (c0_0 : Nat) (l0_0 : List ByteArray) (A0_1 : Option Addr) (c0_1 : Nat) (l0_1 : List (S29)) (r : Bool) (w : World) (hr0_0 : Kd.C Kd.string w A0_0 l0_0.length l0_0) (hc0_0 : l0_0.length ≤ c0_0) (hr0_1 : Kd.C k29 w A0_1 l0_1.length l0_1) (hc0_1 : l0_1.length ≤ c0_1) (h : disk_May.f k l0_0 l0_1 = some r) :
  Calls Try.prog 29 #[.agg #[.slice A0_0 l0_0.length c0_0, .slice A0_1 l0_1.length c0_1]] w fun e w' => e = .returned (.bool r) ∧ Below w.heap.size w w' := by
 have hu25 := Try.underlying25
 have hu29 := Try.underlying29
 have HR0_0 := Aside0.mk hr0_0
 have HC0_0 := Aside0.mk hc0_0
 clear hr0_0 hc0_0
 have HR0_1 := Aside0.mk hr0_1
 have HC0_1 := Aside0.mk hc0_1
 clear hr0_1 hc0_1
 have HB := Aside0.mk (Below.refl w.heap.size w)
 have H := h
 unfold disk_May.f at H
 clear h
 have HC2 := Aside0.mk H
 clear H
 go_enter Try.func29, Try.ntmps29
 go_upto_region 1 with (first | ((with_reducible refine gate_dst (N := 1) rfl ?_); (try (refine gate_guard (by rfl) ?_; dsimp only)); refine bE (N := 1) (cs := #[.slice A0_0 l0_0.length c0_0, .slice A0_1 l0_1.length c0_1]) (t := 25) ?_; intro gb119 hg w3 hbox hb; have n0_ := wH hb; have n1_ := Aside0.mk (hbox); have n2_ := Aside0.mk ((qG hg)); have n3_ := Aside0.mk ((qG hg)); clear HB; have HB := n0_; have BK119 := n1_; have GE119 := n3_; clear n0_ n1_ n2_ n3_; clear hb hbox hg))
 (try simp only [Act.put, List.setIfInBounds_toArray, List.set_cons_zero, List.set_cons_succ])
 go_cut [16] (fun v16 wc => ∃ (kq : Nat) (x16_1 : Bool), v16 = .bool x16_1 ∧ Aside0 (disk_May.j0 kq x16_1 l0_0 l0_1 = some r) ∧ Aside0 (kq ≤ k) ∧ Aside0 (wc.heap[gb119]? = some (.cells #[(.slice A0_0 l0_0.length c0_0), (.slice A0_1 l0_1.length c0_1)] 25 (0, 0))) ∧ Aside0 (Below w.heap.size w wc))
 case first =>
  have H := HC2.out
  clear HC2
  by_cases c4 : (l0_0.length : Int) < 1
  ·rw [if_pos c4] at H
   have c4b0 : decide ((l0_0.length : Int) < 1) = true := decide_eq_true c4
   have c4b1 : decide (l0_0.length < 1) = true := decide_eq_true (by omega)
   clear c4
   (first | rw [c4b0] | (simp only [i64_w, i32_w]; rw [c4b0]) | skip)
   have H' := Aside0.mk H
   clear H
   obtain ⟨hcz5_0, hcz5_1, hfz5_0, hfz5_1⟩ := e2_ BK119
   go_wp2
   go_meet
   case rel => exact ⟨_, (true), eY, H', ⟨by first | omega | exact Nat.le_refl _⟩, ⟨qB BK119⟩, ⟨qH⟩⟩
  ·rw [if_neg c4] at H
   have c4b0 : decide ((l0_0.length : Int) < 1) = false := decide_eq_false c4
   have c4b1 : decide (l0_0.length < 1) = false := decide_eq_false (by omega)
   clear c4
   (first | rw [c4b0] | (simp only [i64_w, i32_w]; rw [c4b0]) | skip)
   have H' := Aside0.mk H
   clear H
   obtain ⟨hcz6_0, hcz6_1, hfz6_0, hfz6_1⟩ := e2_ BK119
   go_wp2
   go_meet
   case rel => exact ⟨_, (decide ((l0_0.length : Int) > 512)), eY, H', ⟨by first | omega | exact Nat.le_refl _⟩, ⟨qB BK119⟩, ⟨qH⟩⟩
 case rest =>
  clear HC2
  (try clear p2)
  obtain ⟨kq, x16_1, rfl, HA, HJ1, BK119, HB⟩ := hcut
  cases kq with
  | zero => exact absurd HA.out (by simp [disk_May.j0])
  | succ kj1 =>
   have H := HA.out
   clear HA
   simp only [disk_May.j0] at H
   by_cases c7 : x16_1 = true
   ·subst c7
    rw [if_pos rfl] at H
    obtain rfl := Option.some.inj H
    go_wp2
    go_ret
    exact ⟨eX, qH⟩
   ·replace c7 := Bool.eq_false_iff.mpr c7
    subst c7
    rw [if_neg nF_] at H
    have H' := Aside0.mk H
    clear H
    obtain ⟨hcz8_0, hcz8_1, hfz8_0, hfz8_1⟩ := e2_ BK119
    go_wp2
    go_loopg [20] kj1 (fun kq v20 w' => ∃ (x20_2 : Int), v20 = .int .i64 x20_2 ∧ Aside0 (disk_May.l0 kq l0_0 (l0_0.length : Int) x20_2 l0_0 l0_1 = some r) ∧ Aside0 (kq ≤ kj1) ∧ Aside0 (w'.heap[gb119]? = some (.cells #[(.slice A0_0 l0_0.length c0_0), (.slice A0_1 l0_1.length c0_1)] 25 (0, 0))) ∧ Aside0 (Below w.heap.size w w'))
    case atStart => exact ⟨(0), eY, H', ⟨Nat.le_refl _⟩, ⟨qB BK119⟩, ⟨qH⟩⟩
    case round =>
     clear H'
     (try clear p2); (try clear c7); (try clear hcz8_0); (try clear hcz8_1); (try clear hfz8_0); (try clear hfz8_1); (try clear p2)
     obtain ⟨x20_2, rfl, HA, HK2, BK119, HB⟩ := hrel
     cases gk with
     | zero => exact absurd HA.out (by simp [disk_May.l0])
     | succ k2 =>
      have H := HA.out
      clear HA
      simp only [disk_May.l0] at H
      by_cases c9 : x20_2 < (l0_0.length : Int)
      ·rw [if_pos c9] at H
       have c9b0 : decide (x20_2 < (l0_0.length : Int)) = true := decide_eq_true c9
       clear c9
       by_cases c10 : 0 ≤ x20_2
       ·rw [if_pos c10] at H
        have c10b0 : decide (0 ≤ x20_2) = true := decide_eq_true c10
        clear c10
        by_cases c11 : x20_2 < (l0_0.length : Int)
        ·rw [if_pos c11] at H
         have c11b0 : decide (x20_2 < (l0_0.length : Int)) = true := decide_eq_true c11
         clear c11
         by_cases c12 : ((rdOf ByteArray.empty l0_0 x20_2).size : Int) = 32
         ·rw [if_pos c12] at H
          have c12b0 : (((rdOf ByteArray.empty l0_0 x20_2).size : Int) == 32) = true := beq_iff_eq.mpr c12
          have c12b1 : (((rdOf ByteArray.empty l0_0 x20_2).size : Int) != 32) = false := bne_eq_false_iff_eq.mpr c12
          clear c12
          have H' := Aside0.mk H
          clear H
          have p120 : 0 ≤ (x20_2 : Int) := of_decide_eq_true aS
          have q120 : x20_2 < (l0_0.length : Int) := of_decide_eq_true aS
          obtain ⟨ad120, e120, hx120_0⟩ := Kd.at_string HR0_0.out x20_2 p120 q120
          cases e120
          replace hx120_0 := (HB.out.cell (World.block_lt_of_cell? w _ hx120_0)).trans hx120_0
          replace p120 := eq_true p120
          replace q120 := eq_true q120
          go_wp2
          go_roundg k2
          case measure => have := HJ1.out; have := HK2.out; omega
          case rel => exact ⟨(wrap64 (x20_2 + 1)), eY, H', ⟨by have := HJ1.out; have := HK2.out; omega⟩, ⟨qB BK119⟩, ⟨qH⟩⟩
         ·rw [if_neg c12] at H
          have c12b0 : (((rdOf ByteArray.empty l0_0 x20_2).size : Int) == 32) = false := beq_eq_false_iff_ne.mpr c12
          have c12b1 : (((rdOf ByteArray.empty l0_0 x20_2).size : Int) != 32) = true := bne_iff_ne.mpr c12
          obtain rfl := Option.some.inj H
          have p120 : 0 ≤ (x20_2 : Int) := of_decide_eq_true aS
          have q120 : x20_2 < (l0_0.length : Int) := of_decide_eq_true aS
          obtain ⟨ad120, e120, hx120_0⟩ := Kd.at_string HR0_0.out x20_2 p120 q120
          cases e120
          replace hx120_0 := (HB.out.cell (World.block_lt_of_cell? w _ hx120_0)).trans hx120_0
          replace p120 := eq_true p120
          replace q120 := eq_true q120
          go_wp2
          go_ret
          exact ⟨eX, qH⟩
        ·rw [if_neg c11] at H
         exact absurd H (by simp)
       ·rw [if_neg c10] at H
        exact absurd H (by simp)
      ·rw [if_neg c9] at H
       have c9b0 : decide (x20_2 < (l0_0.length : Int)) = false := decide_eq_false c9
       clear c9
       have H' := Aside0.mk H
       clear H
       obtain ⟨hcz13_0, hcz13_1, hfz13_0, hfz13_1⟩ := e2_ BK119
       go_wp2
       go_loopg [31] k2 (fun kq v31 w' => ∃ (x31_3 : Int), v31 = .int .i64 x31_3 ∧ Aside0 (disk_May.l1 kq l0_1 (l0_1.length : Int) x31_3 l0_0 l0_1 = some r) ∧ Aside0 (kq ≤ k2) ∧ Aside0 (w'.heap[gb119]? = some (.cells #[(.slice A0_0 l0_0.length c0_0), (.slice A0_1 l0_1.length c0_1)] 25 (0, 0))) ∧ Aside0 (Below w.heap.size w w'))
       case atStart => exact ⟨(0), eY, H', ⟨Nat.le_refl _⟩, ⟨qB BK119⟩, ⟨qH⟩⟩
       case round =>
        clear H'
        (try clear p1); (try clear q1); (try clear p2); (try clear p6); (try clear c9b0); (try clear p12); (try clear q12); (try clear hcz13_0); (try clear hcz13_1)
        (try clear hfz13_0); (try clear hfz13_1); (try clear p120); (try clear p2); (try clear q120)
        obtain ⟨x31_3, rfl, HA, HK3, BK119, HB⟩ := hrel
        cases gk with
        | zero => exact absurd HA.out (by simp [disk_May.l1])
        | succ k3 =>
         have H := HA.out
         clear HA
         simp only [disk_May.l1] at H
         by_cases c14 : x31_3 < (l0_1.length : Int)
         ·rw [if_pos c14] at H
          have c14b0 : decide (x31_3 < (l0_1.length : Int)) = true := decide_eq_true c14
          clear c14
          by_cases c15 : 0 ≤ x31_3
          ·rw [if_pos c15] at H
           have c15b0 : decide (0 ≤ x31_3) = true := decide_eq_true c15
           clear c15
           by_cases c16 : x31_3 < (l0_1.length : Int)
           ·rw [if_pos c16] at H
            have c16b0 : decide (x31_3 < (l0_1.length : Int)) = true := decide_eq_true c16
            clear c16
            replace H := Option.bind_eq_some_iff.mp H
            obtain ⟨t123, A170, H⟩ := H
            try dsimp only at H
            have A17 := Aside0.mk A170
            clear A170
            by_cases c18 : t123 = true
            ·subst c18
             rw [if_pos rfl] at H
             by_cases c19 : (((rd_T29 l0_1 x31_3).f1).size : Int) = 32
             ·rw [if_pos c19] at H
              have c19b0 : ((((rd_T29 l0_1 x31_3).f1).size : Int) == 32) = true := beq_iff_eq.mpr c19
              have c19b1 : ((((rd_T29 l0_1 x31_3).f1).size : Int) != 32) = false := bne_eq_false_iff_eq.mpr c19
              clear c19
              have H' := Aside0.mk H
              clear H
              have p121 : 0 ≤ (x31_3 : Int) := of_decide_eq_true aS
              have q121 : x31_3 < (l0_1.length : Int) := of_decide_eq_true aS
              obtain ⟨ad121, e121, hx121_0, hx121_1⟩ := at_T29 HR0_1.out x31_3 p121 q121
              cases e121
              replace hx121_0 := (HB.out.cell (World.block_lt_of_cell? w _ hx121_0)).trans hx121_0
              replace hx121_1 := (HB.out.cell (World.block_lt_of_cell? w _ hx121_1)).trans hx121_1
              replace p121 := eq_true p121
              replace q121 := eq_true q121
              go_wp2_with (first | ((with_reducible refine gate_dst (N := 6) rfl ?_); (try (refine gate_guard (by rfl) ?_; dsimp only)); refine bE (N := 6) (cs := #[.int .i64 0, .string (⟨#[]⟩ : ByteArray)]) (t := 29) ?_; intro gb122 hg w20 hbox hb; have n0_ := wB BK119 hb; have n1_ := wH hb; have n2_ := Aside0.mk (hbox); have n3_ := Aside0.mk ((qG hg)); have n4_ := Aside0.mk ((qG hg)); have n5_ := Aside0.mk ((by rw [hg]; exact Nat.ne_of_lt (blk_lt (g := gb119) (o := .cells #[.slice A0_0 l0_0.length c0_0, .slice (some ad121) l0_1.length c0_1] 25 (0, 0)) (qB BK119)) : gb119 ≠ gb122)); have n6_ := Aside0.mk ((by rw [hg]; exact Nat.ne_of_gt (blk_lt (g := gb119) (o := .cells #[.slice A0_0 l0_0.length c0_0, .slice (some ad121) l0_1.length c0_1] 25 (0, 0)) (qB BK119)) : gb122 ≠ gb119)); clear BK119; clear HB; have BK119 := n0_; have HB := n1_; have BK122 := n2_; have GE122 := n4_; have NB119_122 := n5_; have NB122_119 := n6_; clear n0_ n1_ n2_ n3_ n4_ n5_ n6_; clear hb hbox hg; obtain ⟨hnb21, hnc21⟩ := nn_ NB122_119; obtain ⟨hcz22_0, hcz22_1, hfz22_0, hfz22_1⟩ := e2_ BK122; obtain ⟨hcz23_0, hcz23_1, hfz23_0, hfz23_1⟩ := e2_ BK119) | ((with_reducible refine gate_callee (f := 30) rfl ?_); refine gL (some 38) Try.func30 #[.agg #[.slice A0_0 l0_0.length c0_0, .slice (some ad121) l0_1.length c0_1], .int .i64 ((rd_T29 l0_1 x31_3).f0)] ?_; (with_reducible refine (disk_is.calls _ _ l0_0 _ _ l0_1 ((rd_T29 l0_1 x31_3).f0) true _ ?side1 ?side2 ?side3 ?side4 A17.out).mono ?_); (case side1 => exact Kd.C_below HR0_0.out qH); (case side2 => exact HC0_0.out); (case side3 => exact Kd.C_below HR0_1.out qH); (case side4 => exact HC0_1.out); rintro e w24 ⟨rfl, hb⟩; refine ⟨_, rfl, ?_⟩; have n0_ := wF BK119 hb; have n1_ := wP2 BK122 hb; have n2_ := wH hb; clear BK119; clear BK122; clear HB; have BK119 := n0_; have BK122 := n1_; have HB := n2_; clear n0_ n1_ n2_; (try clear hb); (try clear hb2); (try clear hk); (try clear hi); obtain ⟨hcz25_0, hcz25_1, hfz25_0, hfz25_1⟩ := e2_ BK122))
              go_roundg k3
              case measure => have := HJ1.out; have := HK2.out; have := HK3.out; omega
              case rel => exact ⟨(wrap64 (x31_3 + 1)), eY, H', ⟨by have := HJ1.out; have := HK2.out; have := HK3.out; omega⟩, ⟨qB BK119⟩, ⟨qH⟩⟩
             ·rw [if_neg c19] at H
              have c19b0 : ((((rd_T29 l0_1 x31_3).f1).size : Int) == 32) = false := beq_eq_false_iff_ne.mpr c19
              have c19b1 : ((((rd_T29 l0_1 x31_3).f1).size : Int) != 32) = true := bne_iff_ne.mpr c19
              obtain rfl := Option.some.inj H
              have p121 : 0 ≤ (x31_3 : Int) := of_decide_eq_true aS
              have q121 : x31_3 < (l0_1.length : Int) := of_decide_eq_true aS
              obtain ⟨ad121, e121, hx121_0, hx121_1⟩ := at_T29 HR0_1.out x31_3 p121 q121
              cases e121
              replace hx121_0 := (HB.out.cell (World.block_lt_of_cell? w _ hx121_0)).trans hx121_0
              replace hx121_1 := (HB.out.cell (World.block_lt_of_cell? w _ hx121_1)).trans hx121_1
              replace p121 := eq_true p121
              replace q121 := eq_true q121
              go_wp2_with (first | ((with_reducible refine gate_dst (N := 6) rfl ?_); (try (refine gate_guard (by rfl) ?_; dsimp only)); refine bE (N := 6) (cs := #[.int .i64 0, .string (⟨#[]⟩ : ByteArray)]) (t := 29) ?_; intro gb122 hg w26 hbox hb; have n0_ := wB BK119 hb; have n1_ := wH hb; have n2_ := Aside0.mk (hbox); have n3_ := Aside0.mk ((qG hg)); have n4_ := Aside0.mk ((qG hg)); have n5_ := Aside0.mk ((by rw [hg]; exact Nat.ne_of_lt (blk_lt (g := gb119) (o := .cells #[.slice A0_0 l0_0.length c0_0, .slice (some ad121) l0_1.length c0_1] 25 (0, 0)) (qB BK119)) : gb119 ≠ gb122)); have n6_ := Aside0.mk ((by rw [hg]; exact Nat.ne_of_gt (blk_lt (g := gb119) (o := .cells #[.slice A0_0 l0_0.length c0_0, .slice (some ad121) l0_1.length c0_1] 25 (0, 0)) (qB BK119)) : gb122 ≠ gb119)); clear BK119; clear HB; have BK119 := n0_; have HB := n1_; have BK122 := n2_; have GE122 := n4_; have NB119_122 := n5_; have NB122_119 := n6_; clear n0_ n1_ n2_ n3_ n4_ n5_ n6_; clear hb hbox hg; obtain ⟨hnb27, hnc27⟩ := nn_ NB122_119; obtain ⟨hcz28_0, hcz28_1, hfz28_0, hfz28_1⟩ := e2_ BK122; obtain ⟨hcz29_0, hcz29_1, hfz29_0, hfz29_1⟩ := e2_ BK119) | ((with_reducible refine gate_callee (f := 30) rfl ?_); refine gL (some 38) Try.func30 #[.agg #[.slice A0_0 l0_0.length c0_0, .slice (some ad121) l0_1.length c0_1], .int .i64 ((rd_T29 l0_1 x31_3).f0)] ?_; (with_reducible refine (disk_is.calls _ _ l0_0 _ _ l0_1 ((rd_T29 l0_1 x31_3).f0) true _ ?side1 ?side2 ?side3 ?side4 A17.out).mono ?_); (case side1 => exact Kd.C_below HR0_0.out qH); (case side2 => exact HC0_0.out); (case side3 => exact Kd.C_below HR0_1.out qH); (case side4 => exact HC0_1.out); rintro e w30 ⟨rfl, hb⟩; refine ⟨_, rfl, ?_⟩; have n0_ := wF BK119 hb; have n1_ := wP2 BK122 hb; have n2_ := wH hb; clear BK119; clear BK122; clear HB; have BK119 := n0_; have BK122 := n1_; have HB := n2_; clear n0_ n1_ n2_; (try clear hb); (try clear hb2); (try clear hk); (try clear hi); obtain ⟨hcz31_0, hcz31_1, hfz31_0, hfz31_1⟩ := e2_ BK122))
              go_ret
              exact ⟨eX, qH⟩
            ·replace c18 := Bool.eq_false_iff.mpr c18
             subst c18
             rw [if_neg nF_] at H
             obtain rfl := Option.some.inj H
             have p121 : 0 ≤ (x31_3 : Int) := of_decide_eq_true aS
             have q121 : x31_3 < (l0_1.length : Int) := of_decide_eq_true aS
             obtain ⟨ad121, e121, hx121_0, hx121_1⟩ := at_T29 HR0_1.out x31_3 p121 q121
             cases e121
             replace hx121_0 := (HB.out.cell (World.block_lt_of_cell? w _ hx121_0)).trans hx121_0
             replace hx121_1 := (HB.out.cell (World.block_lt_of_cell? w _ hx121_1)).trans hx121_1
             replace p121 := eq_true p121
             replace q121 := eq_true q121
             go_wp2_with (first | ((with_reducible refine gate_dst (N := 6) rfl ?_); (try (refine gate_guard (by rfl) ?_; dsimp only)); refine bE (N := 6) (cs := #[.int .i64 0, .string (⟨#[]⟩ : ByteArray)]) (t := 29) ?_; intro gb122 hg w32 hbox hb; have n0_ := wB BK119 hb; have n1_ := wH hb; have n2_ := Aside0.mk (hbox); have n3_ := Aside0.mk ((qG hg)); have n4_ := Aside0.mk ((qG hg)); have n5_ := Aside0.mk ((by rw [hg]; exact Nat.ne_of_lt (blk_lt (g := gb119) (o := .cells #[.slice A0_0 l0_0.length c0_0, .slice (some ad121) l0_1.length c0_1] 25 (0, 0)) (qB BK119)) : gb119 ≠ gb122)); have n6_ := Aside0.mk ((by rw [hg]; exact Nat.ne_of_gt (blk_lt (g := gb119) (o := .cells #[.slice A0_0 l0_0.length c0_0, .slice (some ad121) l0_1.length c0_1] 25 (0, 0)) (qB BK119)) : gb122 ≠ gb119)); clear BK119; clear HB; have BK119 := n0_; have HB := n1_; have BK122 := n2_; have GE122 := n4_; have NB119_122 := n5_; have NB122_119 := n6_; clear n0_ n1_ n2_ n3_ n4_ n5_ n6_; clear hb hbox hg; obtain ⟨hnb33, hnc33⟩ := nn_ NB122_119; obtain ⟨hcz34_0, hcz34_1, hfz34_0, hfz34_1⟩ := e2_ BK122; obtain ⟨hcz35_0, hcz35_1, hfz35_0, hfz35_1⟩ := e2_ BK119) | ((with_reducible refine gate_callee (f := 30) rfl ?_); refine gL (some 38) Try.func30 #[.agg #[.slice A0_0 l0_0.length c0_0, .slice (some ad121) l0_1.length c0_1], .int .i64 ((rd_T29 l0_1 x31_3).f0)] ?_; (with_reducible refine (disk_is.calls _ _ l0_0 _ _ l0_1 ((rd_T29 l0_1 x31_3).f0) false _ ?side1 ?side2 ?side3 ?side4 A17.out).mono ?_); (case side1 => exact Kd.C_below HR0_0.out qH); (case side2 => exact HC0_0.out); (case side3 => exact Kd.C_below HR0_1.out qH); (case side4 => exact HC0_1.out); rintro e w36 ⟨rfl, hb⟩; refine ⟨_, rfl, ?_⟩; have n0_ := wF BK119 hb; have n1_ := wP2 BK122 hb; have n2_ := wH hb; clear BK119; clear BK122; clear HB; have BK119 := n0_; have BK122 := n1_; have HB := n2_; clear n0_ n1_ n2_; (try clear hb); (try clear hb2); (try clear hk); (try clear hi)))
             go_ret
             exact ⟨eX, qH⟩
           ·rw [if_neg c16] at H
            exact absurd H (by simp)
          ·rw [if_neg c15] at H
           exact absurd H (by simp)
         ·rw [if_neg c14] at H
          have c14b0 : decide (x31_3 < (l0_1.length : Int)) = false := decide_eq_false c14
          clear c14
          obtain rfl := Option.some.inj H
          go_wp2
          go_ret
          exact ⟨eX, qH⟩
def journal_place_lies.f (k : Nat) (a0_0 : Int) (a0_1 : Int) (l0_2 : List ByteArray) (l0_3 : List (S29)) : Option (Bool) := (journal_Region_Check.f a0_0 a0_1).bind fun t125 => (if t125 = true then ((disk_May.f k l0_2 l0_3).bind fun t126 => (if t126 = true then ((journal_Region_end.f a0_0 a0_1).bind fun t127 => (some (decide (t127 ≤ (l0_2.length : Int))))) else (some false))) else (some false))
theorem journal_place_lies.mono : ∀ a0 a1 a2 a3 k, LeO (journal_place_lies.f k a0 a1 a2 a3) (journal_place_lies.f (k + 1) a0 a1 a2 a3) := by
 intro a0 a1 a2 a3 k
 unfold journal_place_lies.f
 repeat' first
   | (with_reducible exact disk_May.mono _ _ _)
   | (with_reducible exact LeO.refl _)
   | (with_reducible exact LeO.none _)
   | (with_reducible refine LeO.ite ?_ ?_)
   | (with_reducible refine LeO.bind ?_ (fun _ => ?_))
   | exact disk_May.mono _ _ _
   | exact LeO.none _
   | refine LeO.ite ?_ ?_
   | refine LeO.bind ?_ (fun _ => ?_)
def journal_place_lies.T1 : Bool × List (List Nat × List Nat) := (true, [([], []), ([0], [0]), ([1], [1]), ([2, 2], [2]), ([3], [3]), ([4, 3], [3, 4]), ([5, 3, 3], [3, 5]), ([3, 6], [3, 6]), ([7, 6], [7]), ([8], [8]), ([9, 8], [8, 9]), ([10, 8, 8], [8, 10]), ([8], [8]), ([12, 8], [8, 12]), ([13, 8], [8, 13]), ([14, 8], [8, 14]), ([11, 15, 8], [8, 11, 15]), ([8, 16], [8, 16]), ([17, 11, 0, 1, 2, 3, 4, 5, 6, 7, 8, 9, 10, 11, 12, 13, 14, 15, 16, 17], [17])])
def journal_place_lies.B1 : List Nat := [0, 1, 3, 7, 15, 31, 63, 127, 255, 511, 1023, 2047, 511, 4607, 12799, 29183, 65535, 131071, 262143]
theorem journal_place_lies.tab1 : rtab .any (opsOf Try.f32 1) = journal_place_lies.T1 := by kernel_rfl
theorem journal_place_lies.bits1 : waitsOk journal_place_lies.T1.2 journal_place_lies.B1 = true := by kernel_rfl
set_option maxHeartbeats 8000000 in
set_option maxRecDepth 100000 in
theorem journal_place_lies.calls (k : Nat) (a0_0 : Int) (a0_1 : Int) (A0_2 : Option Addr) (c0_2 : Nat) (l0_2 : List ByteArray) (A0_3 : Option Addr) (c0_3 : Nat) (l0_3 : List (S29)) (r : Bool) (w : World) (hr0_2 : Kd.C Kd.string w A0_2 l0_2.length l0_2) (hc0_2 : l0_2.length ≤ c0_2) (hr0_3 : Kd.C k29 w A0_3 l0_3.length l0_3) (hc0_3 : l0_3.length ≤ c0_3) (h : journal_place_lies.f k a0_0 a0_1 l0_2 l0_3 = some r) :
  Calls Try.prog 32 #[.agg #[.int .i64 a0_0, .int .i64 a0_1, .slice A0_2 l0_2.length c0_2, .slice A0_3 l0_3.length c0_3]] w fun e w' => e = .returned (.bool r) ∧ Below w.heap.size w w' := by
 have hu72 := Try.underlying72
 have hu40 := Try.underlying40
 have hu25 := Try.underlying25
 have HR0_2 := Aside0.mk hr0_2
 have HC0_2 := Aside0.mk hc0_2
 clear hr0_2 hc0_2
 have HR0_3 := Aside0.mk hr0_3
 have HC0_3 := Aside0.mk hc0_3
 clear hr0_3 hc0_3
 have HB := Aside0.mk (Below.refl w.heap.size w)
 have H := h
 unfold journal_place_lies.f at H
 clear h
 replace H := Option.bind_eq_some_iff.mp H
 obtain ⟨t125, A20, H⟩ := H
 try dsimp only at H
 have A2 := Aside0.mk A20
 clear A20
 by_cases c3 : t125 = true
 ·subst c3
  rw [if_pos rfl] at H
  replace H := Option.bind_eq_some_iff.mp H
  obtain ⟨t126, A40, H⟩ := H
  try dsimp only at H
  have A4 := Aside0.mk A40
  clear A40
  by_cases c5 : t126 = true
  ·subst c5
   rw [if_pos rfl] at H
   replace H := Option.bind_eq_some_iff.mp H
   obtain ⟨t127, A60, H⟩ := H
   try dsimp only at H
   have A6 := Aside0.mk A60
   clear A60
   obtain rfl := Option.some.inj H
   go_enter Try.func32, Try.ntmps32
   try go_wp2_with (first | ((with_reducible refine gate_dst (N := 1) rfl ?_); (try (refine gate_guard (by rfl) ?_; dsimp only)); refine bE (N := 1) (cs := #[.int .i64 a0_0, .int .i64 a0_1, .slice A0_2 l0_2.length c0_2, .slice A0_3 l0_3.length c0_3]) (t := 72) ?_; intro gb124 hg w7 hbox hb; have n0_ := wH hb; have n1_ := Aside0.mk (hbox); have n2_ := Aside0.mk ((qG hg)); have n3_ := Aside0.mk ((qG hg)); clear HB; have HB := n0_; have BK124 := n1_; have GE124 := n3_; clear n0_ n1_ n2_ n3_; clear hb hbox hg))
   have n0_ := Aside0.mk (xD_ BK124.out)
   have n1_ := Aside0.mk (yD_ HB.out)
   clear BK124
   clear HB
   have BK124 := n0_
   have HB := n1_
   clear n0_ n1_
   refine start_ (n := 19) (S := fun w' => w'.cell? ⟨gb124, 0, none⟩ = some (.int .i64 a0_0) ∧ w'.cell? ⟨gb124, 1, none⟩ = some (.int .i64 a0_1) ∧ w'.cell? ⟨gb124, 2, none⟩ = some (.slice A0_2 l0_2.length c0_2) ∧ w'.cell? ⟨gb124, 3, none⟩ = some (.slice A0_3 l0_3.length c0_3)) (ds := []) #[F_,F_,F_,F_,F_,F_,F_,F_,F_,F_,F_,F_,F_,F_,F_,F_,F_,F_,F_] (by kernel_rfl) rfl rfl ⟨c0_ BK124, c1_ BK124, c2_ BK124, c3_ BK124⟩ (fun hHeld => ?_); refine with_tabW journal_place_lies.tab1 journal_place_lies.bits1 (fun HT_ HW_ => ?_)
   generalize w7.drew = w8 at BK124 HB hHeld ⊢
   refine pU 0 (some 3) #[T_,F_,F_,F_,F_,F_,F_,F_,F_,F_,F_,F_,F_,F_,F_,F_,F_,F_,F_] HT_ ?_
   refine tK 1 (some 4) #[T_,T_,F_,F_,F_,F_,F_,F_,F_,F_,F_,F_,F_,F_,F_,F_,F_,F_,F_] HT_ HW_ hHeld ?_
   refine oN 2 (some 5) #[T_,T_,T_,F_,F_,F_,F_,F_,F_,F_,F_,F_,F_,F_,F_,F_,F_,F_,F_] HT_ (fun K hK => ?_)
   refine gO Try.func28 #[.agg #[.int .i64 a0_0, .int .i64 a0_1]] ?_
   with_reducible refine (journal_Region_Check.calls a0_0 a0_1 true _ A2.out).mono ?_
   rintro e w9 ⟨rfl, hb⟩
   refine ⟨_, rfl, ?_⟩
   have n0_ := wB BK124 hb
   have n1_ := wH hb
   clear BK124
   clear HB
   have BK124 := n0_
   have HB := n1_
   clear n0_ n1_
   (try clear hb)
   (try clear hb2)
   (try clear hk)
   (try clear hi)
   refine hK.out _ _ ⟨c0_ BK124, c1_ BK124, c2_ BK124, c3_ BK124⟩ (fun hHeld => ?_)
   clear hK K
   refine nS (some 5) ?_
   refine pU 3 (some 6) #[T_,T_,T_,T_,F_,F_,F_,F_,F_,F_,F_,F_,F_,F_,F_,F_,F_,F_,F_] HT_ ?_
   refine pU 4 (some 7) #[T_,T_,T_,T_,T_,F_,F_,F_,F_,F_,F_,F_,F_,F_,F_,F_,F_,F_,F_] HT_ ?_
   refine tK 5 (some 8) #[T_,T_,T_,T_,T_,T_,F_,F_,F_,F_,F_,F_,F_,F_,F_,F_,F_,F_,F_] HT_ HW_ hHeld ?_
   refine oN 6 (some 9) #[T_,T_,T_,T_,T_,T_,T_,F_,F_,F_,F_,F_,F_,F_,F_,F_,F_,F_,F_] HT_ (fun K hK => ?_)
   refine gO Try.func29 #[.agg #[.slice A0_2 l0_2.length c0_2, .slice A0_3 l0_3.length c0_3]] ?_
   with_reducible refine (disk_May.calls k _ _ l0_2 _ _ l0_3 true _ ?side1 ?side2 ?side3 ?side4 A4.out).mono ?_
   (case side1 => exact qC HR0_2)
   (case side2 => exact HC0_2.out)
   (case side3 => exact qC HR0_3)
   (case side4 => exact HC0_3.out)
   rintro e w10 ⟨rfl, hb⟩
   refine ⟨_, rfl, ?_⟩
   have n0_ := wB BK124 hb
   have n1_ := wH hb
   clear BK124
   clear HB
   have BK124 := n0_
   have HB := n1_
   clear n0_ n1_
   (try clear hb)
   (try clear hb2)
   (try clear hk)
   (try clear hi)
   refine hK.out _ _ ⟨c0_ BK124, c1_ BK124, c2_ BK124, c3_ BK124⟩ (fun hHeld => ?_)
   clear hK K
   refine nS (some 9) ?_
   refine pU 7 (some 10) #[T_,T_,T_,T_,T_,T_,T_,T_,F_,F_,F_,F_,F_,F_,F_,F_,F_,F_,F_] HT_ ?_
   refine pU 8 (some 11) #[T_,T_,T_,T_,T_,T_,T_,T_,T_,F_,F_,F_,F_,F_,F_,F_,F_,F_,F_] HT_ ?_
   refine pU 9 (some 12) #[T_,T_,T_,T_,T_,T_,T_,T_,T_,T_,F_,F_,F_,F_,F_,F_,F_,F_,F_] HT_ ?_
   refine pU 12 (some 15) #[T_,T_,T_,T_,T_,T_,T_,T_,T_,T_,F_,F_,T_,F_,F_,F_,F_,F_,F_] HT_ ?_
   refine pU 13 (some 16) #[T_,T_,T_,T_,T_,T_,T_,T_,T_,T_,F_,F_,T_,T_,F_,F_,F_,F_,F_] HT_ ?_
   refine tK 10 (some 13) #[T_,T_,T_,T_,T_,T_,T_,T_,T_,T_,T_,F_,T_,T_,F_,F_,F_,F_,F_] HT_ HW_ hHeld ?_
   refine tK 14 (some 17) #[T_,T_,T_,T_,T_,T_,T_,T_,T_,T_,T_,F_,T_,T_,T_,F_,F_,F_,F_] HT_ HW_ hHeld ?_
   refine pU 15 (some 18) #[T_,T_,T_,T_,T_,T_,T_,T_,T_,T_,T_,F_,T_,T_,T_,T_,F_,F_,F_] HT_ ?_
   refine oN 11 (some 14) #[T_,T_,T_,T_,T_,T_,T_,T_,T_,T_,T_,T_,T_,T_,T_,T_,F_,F_,F_] HT_ (fun K hK => ?_)
   refine gO Try.func35 #[.agg #[.int .i64 a0_0, .int .i64 a0_1]] ?_
   with_reducible refine (journal_Region_end.calls a0_0 a0_1 t127 _ A6.out).mono ?_
   rintro e w11 ⟨rfl, hb⟩
   refine ⟨_, rfl, ?_⟩
   have n0_ := wB BK124 hb
   have n1_ := wH hb
   clear BK124
   clear HB
   have BK124 := n0_
   have HB := n1_
   clear n0_ n1_
   (try clear hb)
   (try clear hb2)
   (try clear hk)
   (try clear hi)
   refine hK.out _ _ ⟨c0_ BK124, c1_ BK124, c2_ BK124, c3_ BK124⟩ (fun hHeld => ?_)
   clear hK K
   refine nS (some 14) ?_
   refine pU 16 (some 19) #[T_,T_,T_,T_,T_,T_,T_,T_,T_,T_,T_,T_,T_,T_,T_,T_,T_,F_,F_] HT_ ?_
   refine pU 17 (some 20) #[T_,T_,T_,T_,T_,T_,T_,T_,T_,T_,T_,T_,T_,T_,T_,T_,T_,T_,F_] HT_ ?_
   refine pU 18 (some 2) #[T_,T_,T_,T_,T_,T_,T_,T_,T_,T_,T_,T_,T_,T_,T_,T_,T_,T_,T_] HT_ ?_
   refine done_ (done_of HT_.out (by kernel_rfl)) ?_
   try go_wp2
   go_ret
   exact ⟨eX, qH⟩
  ·replace c5 := Bool.eq_false_iff.mpr c5
   subst c5
   rw [if_neg nF_] at H
   obtain rfl := Option.some.inj H
   go_enter Try.func32, Try.ntmps32
   try go_wp2_with (first | ((with_reducible refine gate_dst (N := 1) rfl ?_); (try (refine gate_guard (by rfl) ?_; dsimp only)); refine bE (N := 1) (cs := #[.int .i64 a0_0, .int .i64 a0_1, .slice A0_2 l0_2.length c0_2, .slice A0_3 l0_3.length c0_3]) (t := 72) ?_; intro gb124 hg w12 hbox hb; have n0_ := wH hb; have n1_ := Aside0.mk (hbox); have n2_ := Aside0.mk ((qG hg)); have n3_ := Aside0.mk ((qG hg)); clear HB; have HB := n0_; have BK124 := n1_; have GE124 := n3_; clear n0_ n1_ n2_ n3_; clear hb hbox hg))
   have n0_ := Aside0.mk (xD_ BK124.out)
   have n1_ := Aside0.mk (yD_ HB.out)
   clear BK124
   clear HB
   have BK124 := n0_
   have HB := n1_
   clear n0_ n1_
   refine start_ (n := 19) (S := fun w' => w'.cell? ⟨gb124, 0, none⟩ = some (.int .i64 a0_0) ∧ w'.cell? ⟨gb124, 1, none⟩ = some (.int .i64 a0_1) ∧ w'.cell? ⟨gb124, 2, none⟩ = some (.slice A0_2 l0_2.length c0_2) ∧ w'.cell? ⟨gb124, 3, none⟩ = some (.slice A0_3 l0_3.length c0_3)) (ds := []) #[F_,F_,F_,F_,F_,F_,F_,F_,F_,F_,F_,F_,F_,F_,F_,F_,F_,F_,F_] (by kernel_rfl) rfl rfl ⟨c0_ BK124, c1_ BK124, c2_ BK124, c3_ BK124⟩ (fun hHeld => ?_); refine with_tabW journal_place_lies.tab1 journal_place_lies.bits1 (fun HT_ HW_ => ?_)
   generalize w12.drew = w13 at BK124 HB hHeld ⊢
   refine pU 0 (some 3) #[T_,F_,F_,F_,F_,F_,F_,F_,F_,F_,F_,F_,F_,F_,F_,F_,F_,F_,F_] HT_ ?_
   refine tK 1 (some 4) #[T_,T_,F_,F_,F_,F_,F_,F_,F_,F_,F_,F_,F_,F_,F_,F_,F_,F_,F_] HT_ HW_ hHeld ?_
   refine oN 2 (some 5) #[T_,T_,T_,F_,F_,F_,F_,F_,F_,F_,F_,F_,F_,F_,F_,F_,F_,F_,F_] HT_ (fun K hK => ?_)
   refine gO Try.func28 #[.agg #[.int .i64 a0_0, .int .i64 a0_1]] ?_
   with_reducible refine (journal_Region_Check.calls a0_0 a0_1 true _ A2.out).mono ?_
   rintro e w14 ⟨rfl, hb⟩
   refine ⟨_, rfl, ?_⟩
   have n0_ := wB BK124 hb
   have n1_ := wH hb
   clear BK124
   clear HB
   have BK124 := n0_
   have HB := n1_
   clear n0_ n1_
   (try clear hb)
   (try clear hb2)
   (try clear hk)
   (try clear hi)
   refine hK.out _ _ ⟨c0_ BK124, c1_ BK124, c2_ BK124, c3_ BK124⟩ (fun hHeld => ?_)
   clear hK K
   refine nS (some 5) ?_
   refine pU 3 (some 6) #[T_,T_,T_,T_,F_,F_,F_,F_,F_,F_,F_,F_,F_,F_,F_,F_,F_,F_,F_] HT_ ?_
   refine pU 4 (some 7) #[T_,T_,T_,T_,T_,F_,F_,F_,F_,F_,F_,F_,F_,F_,F_,F_,F_,F_,F_] HT_ ?_
   refine tK 5 (some 8) #[T_,T_,T_,T_,T_,T_,F_,F_,F_,F_,F_,F_,F_,F_,F_,F_,F_,F_,F_] HT_ HW_ hHeld ?_
   refine oN 6 (some 9) #[T_,T_,T_,T_,T_,T_,T_,F_,F_,F_,F_,F_,F_,F_,F_,F_,F_,F_,F_] HT_ (fun K hK => ?_)
   refine gO Try.func29 #[.agg #[.slice A0_2 l0_2.length c0_2, .slice A0_3 l0_3.length c0_3]] ?_
   with_reducible refine (disk_May.calls k _ _ l0_2 _ _ l0_3 false _ ?side1 ?side2 ?side3 ?side4 A4.out).mono ?_
   (case side1 => exact qC HR0_2)
   (case side2 => exact HC0_2.out)
   (case side3 => exact qC HR0_3)
   (case side4 => exact HC0_3.out)
   rintro e w15 ⟨rfl, hb⟩
   refine ⟨_, rfl, ?_⟩
   have n0_ := wB BK124 hb
   have n1_ := wH hb
   clear BK124
   clear HB
   have BK124 := n0_
   have HB := n1_
   clear n0_ n1_
   (try clear hb)
   (try clear hb2)
   (try clear hk)
   (try clear hi)
   refine hK.out _ _ ⟨c0_ BK124, c1_ BK124, c2_ BK124, c3_ BK124⟩ (fun hHeld => ?_)
   clear hK K
   refine nS (some 9) ?_
   refine pU 7 (some 10) #[T_,T_,T_,T_,T_,T_,T_,T_,F_,F_,F_,F_,F_,F_,F_,F_,F_,F_,F_] HT_ ?_
   refine pU 8 (some 11) #[T_,T_,T_,T_,T_,T_,T_,T_,T_,F_,F_,F_,F_,F_,F_,F_,F_,F_,F_] HT_ ?_
   refine pN 9 (some 12) #[T_,T_,T_,T_,T_,T_,T_,T_,T_,T_,F_,F_,F_,F_,F_,F_,F_,F_,F_] HT_ ?_
   refine pN 10 (some 13) #[T_,T_,T_,T_,T_,T_,T_,T_,T_,T_,T_,F_,F_,F_,F_,F_,F_,F_,F_] HT_ ?_
   refine pN 11 (some 14) #[T_,T_,T_,T_,T_,T_,T_,T_,T_,T_,T_,T_,F_,F_,F_,F_,F_,F_,F_] HT_ ?_
   refine pN 12 (some 15) #[T_,T_,T_,T_,T_,T_,T_,T_,T_,T_,T_,T_,T_,F_,F_,F_,F_,F_,F_] HT_ ?_
   refine pN 13 (some 16) #[T_,T_,T_,T_,T_,T_,T_,T_,T_,T_,T_,T_,T_,T_,F_,F_,F_,F_,F_] HT_ ?_
   refine pN 14 (some 17) #[T_,T_,T_,T_,T_,T_,T_,T_,T_,T_,T_,T_,T_,T_,T_,F_,F_,F_,F_] HT_ ?_
   refine pN 15 (some 18) #[T_,T_,T_,T_,T_,T_,T_,T_,T_,T_,T_,T_,T_,T_,T_,T_,F_,F_,F_] HT_ ?_
   refine pN 16 (some 19) #[T_,T_,T_,T_,T_,T_,T_,T_,T_,T_,T_,T_,T_,T_,T_,T_,T_,F_,F_] HT_ ?_
   refine pU 17 (some 20) #[T_,T_,T_,T_,T_,T_,T_,T_,T_,T_,T_,T_,T_,T_,T_,T_,T_,T_,F_] HT_ ?_
   refine pU 18 (some 2) #[T_,T_,T_,T_,T_,T_,T_,T_,T_,T_,T_,T_,T_,T_,T_,T_,T_,T_,T_] HT_ ?_
   refine done_ (done_of HT_.out (by kernel_rfl)) ?_
   try go_wp2
   go_ret
   exact ⟨eX, qH⟩
 ·replace c3 := Bool.eq_false_iff.mpr c3
  subst c3
  rw [if_neg nF_] at H
  obtain rfl := Option.some.inj H
  go_enter Try.func32, Try.ntmps32
  try go_wp2_with (first | ((with_reducible refine gate_dst (N := 1) rfl ?_); (try (refine gate_guard (by rfl) ?_; dsimp only)); refine bE (N := 1) (cs := #[.int .i64 a0_0, .int .i64 a0_1, .slice A0_2 l0_2.length c0_2, .slice A0_3 l0_3.length c0_3]) (t := 72) ?_; intro gb124 hg w16 hbox hb; have n0_ := wH hb; have n1_ := Aside0.mk (hbox); have n2_ := Aside0.mk ((qG hg)); have n3_ := Aside0.mk ((qG hg)); clear HB; have HB := n0_; have BK124 := n1_; have GE124 := n3_; clear n0_ n1_ n2_ n3_; clear hb hbox hg))
  have n0_ := Aside0.mk (xD_ BK124.out)
  have n1_ := Aside0.mk (yD_ HB.out)
  clear BK124
  clear HB
  have BK124 := n0_
  have HB := n1_
  clear n0_ n1_
  refine start_ (n := 19) (S := fun w' => w'.cell? ⟨gb124, 0, none⟩ = some (.int .i64 a0_0) ∧ w'.cell? ⟨gb124, 1, none⟩ = some (.int .i64 a0_1) ∧ w'.cell? ⟨gb124, 2, none⟩ = some (.slice A0_2 l0_2.length c0_2) ∧ w'.cell? ⟨gb124, 3, none⟩ = some (.slice A0_3 l0_3.length c0_3)) (ds := []) #[F_,F_,F_,F_,F_,F_,F_,F_,F_,F_,F_,F_,F_,F_,F_,F_,F_,F_,F_] (by kernel_rfl) rfl rfl ⟨c0_ BK124, c1_ BK124, c2_ BK124, c3_ BK124⟩ (fun hHeld => ?_); refine with_tabW journal_place_lies.tab1 journal_place_lies.bits1 (fun HT_ HW_ => ?_)
  generalize w16.drew = w17 at BK124 HB hHeld ⊢
  refine pU 0 (some 3) #[T_,F_,F_,F_,F_,F_,F_,F_,F_,F_,F_,F_,F_,F_,F_,F_,F_,F_,F_] HT_ ?_
  refine tK 1 (some 4) #[T_,T_,F_,F_,F_,F_,F_,F_,F_,F_,F_,F_,F_,F_,F_,F_,F_,F_,F_] HT_ HW_ hHeld ?_
  refine oN 2 (some 5) #[T_,T_,T_,F_,F_,F_,F_,F_,F_,F_,F_,F_,F_,F_,F_,F_,F_,F_,F_] HT_ (fun K hK => ?_)
  refine gO Try.func28 #[.agg #[.int .i64 a0_0, .int .i64 a0_1]] ?_
  with_reducible refine (journal_Region_Check.calls a0_0 a0_1 false _ A2.out).mono ?_
  rintro e w18 ⟨rfl, hb⟩
  refine ⟨_, rfl, ?_⟩
  have n0_ := wB BK124 hb
  have n1_ := wH hb
  clear BK124
  clear HB
  have BK124 := n0_
  have HB := n1_
  clear n0_ n1_
  (try clear hb)
  (try clear hb2)
  (try clear hk)
  (try clear hi)
  refine hK.out _ _ ⟨c0_ BK124, c1_ BK124, c2_ BK124, c3_ BK124⟩ (fun hHeld => ?_)
  clear hK K
  refine nS (some 5) ?_
  refine pU 3 (some 6) #[T_,T_,T_,T_,F_,F_,F_,F_,F_,F_,F_,F_,F_,F_,F_,F_,F_,F_,F_] HT_ ?_
  refine pN 4 (some 7) #[T_,T_,T_,T_,T_,F_,F_,F_,F_,F_,F_,F_,F_,F_,F_,F_,F_,F_,F_] HT_ ?_
  refine pN 5 (some 8) #[T_,T_,T_,T_,T_,T_,F_,F_,F_,F_,F_,F_,F_,F_,F_,F_,F_,F_,F_] HT_ ?_
  refine pN 6 (some 9) #[T_,T_,T_,T_,T_,T_,T_,F_,F_,F_,F_,F_,F_,F_,F_,F_,F_,F_,F_] HT_ ?_
  refine pU 7 (some 10) #[T_,T_,T_,T_,T_,T_,T_,T_,F_,F_,F_,F_,F_,F_,F_,F_,F_,F_,F_] HT_ ?_
  refine pU 8 (some 11) #[T_,T_,T_,T_,T_,T_,T_,T_,T_,F_,F_,F_,F_,F_,F_,F_,F_,F_,F_] HT_ ?_
  refine pN 9 (some 12) #[T_,T_,T_,T_,T_,T_,T_,T_,T_,T_,F_,F_,F_,F_,F_,F_,F_,F_,F_] HT_ ?_
  refine pN 10 (some 13) #[T_,T_,T_,T_,T_,T_,T_,T_,T_,T_,T_,F_,F_,F_,F_,F_,F_,F_,F_] HT_ ?_
  refine pN 11 (some 14) #[T_,T_,T_,T_,T_,T_,T_,T_,T_,T_,T_,T_,F_,F_,F_,F_,F_,F_,F_] HT_ ?_
  refine pN 12 (some 15) #[T_,T_,T_,T_,T_,T_,T_,T_,T_,T_,T_,T_,T_,F_,F_,F_,F_,F_,F_] HT_ ?_
  refine pN 13 (some 16) #[T_,T_,T_,T_,T_,T_,T_,T_,T_,T_,T_,T_,T_,T_,F_,F_,F_,F_,F_] HT_ ?_
  refine pN 14 (some 17) #[T_,T_,T_,T_,T_,T_,T_,T_,T_,T_,T_,T_,T_,T_,T_,F_,F_,F_,F_] HT_ ?_
  refine pN 15 (some 18) #[T_,T_,T_,T_,T_,T_,T_,T_,T_,T_,T_,T_,T_,T_,T_,T_,F_,F_,F_] HT_ ?_
  refine pN 16 (some 19) #[T_,T_,T_,T_,T_,T_,T_,T_,T_,T_,T_,T_,T_,T_,T_,T_,T_,F_,F_] HT_ ?_
  refine pU 17 (some 20) #[T_,T_,T_,T_,T_,T_,T_,T_,T_,T_,T_,T_,T_,T_,T_,T_,T_,T_,F_] HT_ ?_
  refine pU 18 (some 2) #[T_,T_,T_,T_,T_,T_,T_,T_,T_,T_,T_,T_,T_,T_,T_,T_,T_,T_,T_] HT_ ?_
  refine done_ (done_of HT_.out (by kernel_rfl)) ?_
  try go_wp2
  go_ret
  exact ⟨eX, qH⟩
def rec_in.f (a0 : Int) (a1 : Int) (a2 : Int) : Option (Bool) := if a0 ≥ a1 then (some (decide (a0 ≤ a2))) else (some false)
set_option maxHeartbeats 8000000 in
set_option maxRecDepth 100000 in
theorem rec_in.calls (a0 : Int) (a1 : Int) (a2 : Int) (r : Bool) (w : World) (h : rec_in.f a0 a1 a2 = some r) :
  Calls Try.prog 62 #[.int .i64 a0, .int .i64 a1, .int .i64 a2] w fun e w' => e = .returned (.bool r) ∧ Drawn0 w w' := by
 have H : (if a0 ≥ a1 then (some (decide (a0 ≤ a2))) else (some false)) = some r := h
 clear h
 by_cases c4 : a0 ≥ a1
 ·rw [if_pos c4] at H
  have c4b0 : decide (a1 ≤ a0) = true := decide_eq_true c4
  clear c4
  obtain rfl := Option.some.inj H
  go_enter Try.func62, Try.ntmps62
  go_wp2
  go_ret
  exact ⟨by first | rfl | (simp; done) | (simp [*]; done), by repeat (first | exact Drawn0.refl _ | apply Drawn0.step)⟩
 ·rw [if_neg c4] at H
  have c4b0 : decide (a1 ≤ a0) = false := decide_eq_false c4
  clear c4
  obtain rfl := Option.some.inj H
  go_enter Try.func62, Try.ntmps62
  go_wp2
  go_ret
  exact ⟨by first | rfl | (simp; done) | (simp [*]; done), by repeat (first | exact Drawn0.refl _ | apply Drawn0.step)⟩
def sum_halves.f (a0 : Int) : Option (Int × Int × Bool) := if a0 ≥ 0 then (if (wrap64 (Int.tdiv a0 65536)) < 65521 then (some (wrap64 (Int.tdiv a0 65536), Int.tmod a0 65536, decide ((Int.tmod a0 65536) < 65521))) else (some (wrap64 (Int.tdiv a0 65536), Int.tmod a0 65536, false))) else (some (wrap64 (Int.tdiv a0 65536), Int.tmod a0 65536, false))
set_option maxHeartbeats 8000000 in
set_option maxRecDepth 100000 in
theorem sum_halves.calls (a0 : Int) (r1 : Int) (r2 : Int) (r3 : Bool) (w : World) (h : sum_halves.f a0 = some (r1, r2, r3)) :
  Calls Try.prog 83 #[.int .i64 a0] w fun e w' => e = .returned (.tuple #[.int .i64 r1, .int .i64 r2, .bool r3]) ∧ Drawn0 w w' := by
 have H := h
 unfold sum_halves.f at H
 clear h
 by_cases c2 : a0 ≥ 0
 ·rw [if_pos c2] at H
  have c2b0 : decide (0 ≤ a0) = true := decide_eq_true c2
  clear c2
  by_cases c3 : (wrap64 (Int.tdiv a0 65536)) < 65521
  ·rw [if_pos c3] at H
   have c3b0 : decide ((wrap64 (Int.tdiv a0 65536)) < 65521) = true := decide_eq_true c3
   clear c3
   simp only [Option.some.injEq, Prod.mk.injEq] at H
   obtain ⟨rfl, rfl, rfl⟩ := H
   go_enter Try.func83, Try.ntmps83
   go_wp2
   go_ret3
   exact ⟨by first | rfl | (simp; done) | (simp [*]; done), by repeat (first | exact Drawn0.refl _ | apply Drawn0.step)⟩
  ·rw [if_neg c3] at H
   have c3b0 : decide ((wrap64 (Int.tdiv a0 65536)) < 65521) = false := decide_eq_false c3
   clear c3
   simp only [Option.some.injEq, Prod.mk.injEq] at H
   obtain ⟨rfl, rfl, rfl⟩ := H
   go_enter Try.func83, Try.ntmps83
   go_wp2
   go_ret3
   exact ⟨by first | rfl | (simp; done) | (simp [*]; done), by repeat (first | exact Drawn0.refl _ | apply Drawn0.step)⟩
 ·rw [if_neg c2] at H
  have c2b0 : decide (0 ≤ a0) = false := decide_eq_false c2
  clear c2
  simp only [Option.some.injEq, Prod.mk.injEq] at H
  obtain ⟨rfl, rfl, rfl⟩ := H
  go_enter Try.func83, Try.ntmps83
  go_wp2
  go_ret3
  exact ⟨by first | rfl | (simp; done) | (simp [*]; done), by repeat (first | exact Drawn0.refl _ | apply Drawn0.step)⟩
def sum_Roll.l0 : Nat → ByteArray → Int → Int → Int → Int → Option (Int)
 | 0, _, _, _, _, _ => none
 | k + 1, x1, x5, x6, x18, x19 => if x19 < x18 then (if 0 ≤ x19 then (if x19 < (x1.size : Int) then (sum_Roll.l0 k x1 (Int.tmod (wrap64 (x5 + (Int.tmod (wrap64 (x6 + (wrap64 (bt x1 x19)))) 65521))) 65521) (Int.tmod (wrap64 (x6 + (wrap64 (bt x1 x19)))) 65521) x18 (wrap64 (x19 + 1))) else (none)) else (none)) else (some (wrap64 ((wrap64 (x5 * 65536)) + x6)))
def sum_Roll.f (k : Nat) (a0 : Int) (a1 : ByteArray) : Option (Int) := (sum_halves.f a0).bind fun bt128 => (if bt128.2.2 = true then (sum_Roll.l0 k a1 bt128.1 bt128.2.1 (a1.size : Int) 0) else (some 0))
theorem sum_Roll.mono_l : ∀ k, (∀ y0 y1 y2 y3 y4, LeO (sum_Roll.l0 k y0 y1 y2 y3 y4) (sum_Roll.l0 (k + 1) y0 y1 y2 y3 y4))
 | 0 => fun _ _ _ _ _ r h => by simp [sum_Roll.l0] at h
 | k + 1 => by
  have ih0 := sum_Roll.mono_l k
  ·intro y0 y1 y2 y3 y4
   unfold sum_Roll.l0
   repeat' first
   | (with_reducible exact ih0 _ _ _ _ _)
   | (with_reducible exact LeO.refl _)
   | (with_reducible exact LeO.none _)
   | (with_reducible refine LeO.ite ?_ ?_)
   | (with_reducible refine LeO.bind ?_ (fun _ => ?_))
   | exact ih0 _ _ _ _ _
   | exact LeO.none _
   | refine LeO.ite ?_ ?_
   | refine LeO.bind ?_ (fun _ => ?_)
theorem sum_Roll.mono : ∀ a0 a1 k, LeO (sum_Roll.f k a0 a1) (sum_Roll.f (k + 1) a0 a1) := by
 intro a0 a1 k
 have ih0 := sum_Roll.mono_l k
 unfold sum_Roll.f
 repeat' first
   | (with_reducible exact ih0 _ _ _ _ _)
   | (with_reducible exact LeO.refl _)
   | (with_reducible exact LeO.none _)
   | (with_reducible refine LeO.ite ?_ ?_)
   | (with_reducible refine LeO.bind ?_ (fun _ => ?_))
   | exact ih0 _ _ _ _ _
   | exact LeO.none _
   | refine LeO.ite ?_ ?_
   | refine LeO.bind ?_ (fun _ => ?_)
set_option maxHeartbeats 8000000 in
set_option maxRecDepth 100000 in
theorem sum_Roll.calls (k : Nat) (a0 : Int) (a1 : ByteArray) (r : Int) (w : World) (h : sum_Roll.f k a0 a1 = some r) :
  Calls Try.prog 72 #[.int .i64 a0, .string a1] w fun e w' => e = .returned (.int .i64 r) ∧ Drawn0 w w' := by
 have H := h
 unfold sum_Roll.f at H
 clear h
 replace H := Option.bind_eq_some_iff.mp H
 obtain ⟨⟨t128, t129, t130⟩, A30, H⟩ := H
 try dsimp only at H
 have A3 := Aside0.mk A30
 clear A30
 by_cases c4 : t130 = true
 ·subst c4
  rw [if_pos rfl] at H
  have H' := Aside0.mk H
  clear H
  go_enter Try.func72, Try.ntmps72
  go_wp2_with (first | ((with_reducible refine gate_callee (f := 83) rfl ?_); refine gL (some 11) Try.func83 #[.int .i64 a0] ?_; (with_reducible refine (sum_halves.calls a0 t128 t129 true _ A3.out).mono ?_); rintro e w' ⟨rfl, ⟨nd, rfl⟩⟩; refine ⟨_, rfl, ?_⟩) | (go_at_call 83; (with_reducible refine (sum_halves.calls a0 t128 t129 true _ A3.out).mono ?_); rintro e w' ⟨rfl, ⟨nd, rfl⟩⟩))
  go_loopg [5, 6, 19] k (fun kq v5 v6 v19 w' => ∃ (x5_1 : Int) (x6_1 : Int) (x19_1 : Int), v5 = .int .i64 x5_1 ∧ v6 = .int .i64 x6_1 ∧ v19 = .int .i64 x19_1 ∧ Aside0 (sum_Roll.l0 kq a1 x5_1 x6_1 (a1.size : Int) x19_1 = some r) ∧ Aside0 (kq ≤ k) ∧ Drawn0 w w')
  case atStart => exact ⟨(t128), (t129), (0), eY, eY, eY, H', ⟨Nat.le_refl _⟩, by repeat (first | exact Drawn0.refl _ | apply Drawn0.step)⟩
  case round =>
   clear H'
   (try clear p2); (try clear c4)
   obtain ⟨x5_1, x6_1, x19_1, rfl, rfl, rfl, HA, HK1, ⟨m1, rfl⟩⟩ := hrel
   cases gk with
   | zero => exact absurd HA.out (by simp [sum_Roll.l0])
   | succ k1 =>
    have H := HA.out
    clear HA
    simp only [sum_Roll.l0] at H
    by_cases c5 : x19_1 < (a1.size : Int)
    ·rw [if_pos c5] at H
     have c5b0 : decide (x19_1 < (a1.size : Int)) = true := decide_eq_true c5
     clear c5
     by_cases c6 : 0 ≤ x19_1
     ·rw [if_pos c6] at H
      have c6b0 : decide (0 ≤ x19_1) = true := decide_eq_true c6
      clear c6
      by_cases c7 : x19_1 < (a1.size : Int)
      ·rw [if_pos c7] at H
       have c7b0 : decide (x19_1 < (a1.size : Int)) = true := decide_eq_true c7
       clear c7
       have H' := Aside0.mk H
       clear H
       have p8 : 0 ≤ (x19_1 : Int) := of_decide_eq_true aS
       have q8 : x19_1 < (a1.size : Int) := of_decide_eq_true aS
       have hx8 := bt_at a1 x19_1
       replace p8 := eq_true p8
       replace q8 := eq_true q8
       go_wp2
       go_roundg k1
       case measure => have := HK1.out; omega
       case rel => exact ⟨(Int.tmod (wrap64 (x5_1 + (Int.tmod (wrap64 (x6_1 + (wrap64 (bt a1 x19_1)))) 65521))) 65521), (Int.tmod (wrap64 (x6_1 + (wrap64 (bt a1 x19_1)))) 65521), (wrap64 (x19_1 + 1)), eY, eY, eY, H', ⟨by have := HK1.out; omega⟩, by repeat (first | exact Drawn0.refl _ | apply Drawn0.step)⟩
      ·rw [if_neg c7] at H
       exact absurd H (by simp)
     ·rw [if_neg c6] at H
      exact absurd H (by simp)
    ·rw [if_neg c5] at H
     have c5b0 : decide (x19_1 < (a1.size : Int)) = false := decide_eq_false c5
     clear c5
     obtain rfl := Option.some.inj H
     go_wp2
     go_ret
     exact ⟨by first | rfl | (simp; done) | (simp [*]; done), by repeat (first | exact Drawn0.refl _ | apply Drawn0.step)⟩
 ·replace c4 := Bool.eq_false_iff.mpr c4
  subst c4
  rw [if_neg nF_] at H
  obtain rfl := Option.some.inj H
  go_enter Try.func72, Try.ntmps72
  go_wp2_with (first | ((with_reducible refine gate_callee (f := 83) rfl ?_); refine gL (some 11) Try.func83 #[.int .i64 a0] ?_; (with_reducible refine (sum_halves.calls a0 t128 t129 false _ A3.out).mono ?_); rintro e w' ⟨rfl, ⟨nd, rfl⟩⟩; refine ⟨_, rfl, ?_⟩) | (go_at_call 83; (with_reducible refine (sum_halves.calls a0 t128 t129 false _ A3.out).mono ?_); rintro e w' ⟨rfl, ⟨nd, rfl⟩⟩))
  go_ret
  exact ⟨by first | rfl | (simp; done) | (simp [*]; done), by repeat (first | exact Drawn0.refl _ | apply Drawn0.step)⟩
def rec_bytes.l0 : Nat → List Int → List Int → Int → Int → Option (ByteArray)
 | 0, _, _, _, _ => none
 | k + 1, x3, x6, x7, x8 => if x8 < x7 then (if 0 ≤ x8 then (if x8 < (x6.length : Int) then ((some (([((rd x6 x8) / 16777216) % 256, ((rd x6 x8) / 65536) % 256, ((rd x6 x8) / 256) % 256, (rd x6 x8) % 256] : List Int) : List Int)).bind fun y141 => (if x3.length + y141.length < 140737488355328 then (rec_bytes.l0 k (x3 ++ y141) x6 x7 (wrap64 (x8 + 1))) else (none))) else (none)) else (none)) else (some (strOfNums x3))
def rec_bytes.f (k : Nat) (l0 : List Int) : Option (ByteArray) := rec_bytes.l0 k ([] : List Int) l0 (l0.length : Int) 0
theorem rec_bytes.mono_l : ∀ k, (∀ y0 y1 y2 y3, LeO (rec_bytes.l0 k y0 y1 y2 y3) (rec_bytes.l0 (k + 1) y0 y1 y2 y3))
 | 0 => fun _ _ _ _ r h => by simp [rec_bytes.l0] at h
 | k + 1 => by
  have ih0 := rec_bytes.mono_l k
  ·intro y0 y1 y2 y3
   unfold rec_bytes.l0
   repeat' first
   | (with_reducible exact ih0 _ _ _ _)
   | (with_reducible exact LeO.refl _)
   | (with_reducible exact LeO.none _)
   | (with_reducible refine LeO.ite ?_ ?_)
   | (with_reducible refine LeO.bind ?_ (fun _ => ?_))
   | exact ih0 _ _ _ _
   | exact LeO.none _
   | refine LeO.ite ?_ ?_
   | refine LeO.bind ?_ (fun _ => ?_)
theorem rec_bytes.mono : ∀ a0 k, LeO (rec_bytes.f k a0) (rec_bytes.f (k + 1) a0) := by
 intro a0 k
 have ih0 := rec_bytes.mono_l k
 unfold rec_bytes.f
 repeat' first
   | (with_reducible exact ih0 _ _ _ _)
   | (with_reducible exact LeO.refl _)
   | (with_reducible exact LeO.none _)
   | (with_reducible refine LeO.ite ?_ ?_)
   | (with_reducible refine LeO.bind ?_ (fun _ => ?_))
   | exact ih0 _ _ _ _
   | exact LeO.none _
   | refine LeO.ite ?_ ?_
   | refine LeO.bind ?_ (fun _ => ?_)
set_option maxHeartbeats 8000000 in
set_option maxRecDepth 100000 in
theorem rec_bytes.calls (k : Nat) (A0 : Option Addr) (c0 : Nat) (l0 : List Int) (r : ByteArray) (w : World) (hr0 : Kd.C (Kd.int .i64) w A0 l0.length l0) (hc0 : l0.length ≤ c0) (h : rec_bytes.f k l0 = some r) :
  Calls Try.prog 76 #[.slice A0 l0.length c0] w fun e w' => e = .returned (.string r) ∧ Below w.heap.size w w' := by
 have HR0 := Aside0.mk hr0
 have HC0 := Aside0.mk hc0
 clear hr0 hc0
 have HB := Aside0.mk (Below.refl w.heap.size w)
 have H : (rec_bytes.l0 k ([] : List Int) l0 (l0.length : Int) 0) = some r := h
 clear h
 have H' := Aside0.mk H
 clear H
 go_enter Try.func76, Try.ntmps76
 go_wp2
 go_loopg [3, 8] k (fun kq v3 v8 w' => ∃ (x3_1 : List Int) (x8_1 : Int), v8 = .int .i64 x8_1 ∧ Aside0 (rec_bytes.l0 kq x3_1 l0 (l0.length : Int) x8_1 = some r) ∧ Aside0 (kq ≤ k) ∧ Aside0 (Kd.R (Kd.int .u8) 5 w' w.heap.size (fun _ => True) v3 x3_1) ∧ Aside0 (Below w.heap.size w w'))
 case atStart => exact ⟨(([] : List Int)), (0), eY, H', ⟨Nat.le_refl _⟩, ⟨by first | exact Kd.R_nil _ _ _ _ _ | exact Kd.N_nil _ _ _ _ _ | exact Kd.V_nil _ _ _ _ _ | exact Kd.Q_nil _ _ _ _ _ | exact Kd.S_nil _ _ _ _ _⟩, ⟨qH⟩⟩
 case round =>
  clear H'
  obtain ⟨x3_1, x8_1, rfl, HA, HK1, HO_3, HB⟩ := hrel
  cases gk with
  | zero => exact absurd HA.out (by simp [rec_bytes.l0])
  | succ k1 =>
   have H := HA.out
   clear HA
   simp only [rec_bytes.l0] at H
   by_cases c2 : x8_1 < (l0.length : Int)
   ·rw [if_pos c2] at H
    have c2b0 : decide (x8_1 < (l0.length : Int)) = true := decide_eq_true c2
    clear c2
    by_cases c3 : 0 ≤ x8_1
    ·rw [if_pos c3] at H
     have c3b0 : decide (0 ≤ x8_1) = true := decide_eq_true c3
     clear c3
     by_cases c4 : x8_1 < (l0.length : Int)
     ·rw [if_pos c4] at H
      have c4b0 : decide (x8_1 < (l0.length : Int)) = true := decide_eq_true c4
      clear c4
      obtain ⟨y141, hy141⟩ : ∃ y_ : List Int, y_ = (([((rd l0 x8_1) / 16777216) % 256, ((rd l0 x8_1) / 65536) % 256, ((rd l0 x8_1) / 256) % 256, (rd l0 x8_1) % 256] : List Int)) := ⟨_, rfl⟩
      replace H : (if x3_1.length + y141.length < 140737488355328 then (rec_bytes.l0 k1 (x3_1 ++ y141) l0 (l0.length : Int) (wrap64 (x8_1 + 1))) else (none)) = some r := by first | (rw [hy141]; with_reducible exact H) | (have H2_ := (Option.bind_some _ _).symm.trans H; rw [hy141]; with_reducible exact H2_) | (have H2_ := (Option.bind_some _ _).symm.trans H; with_reducible exact H2_) | with_reducible exact H | (rw [hy141]; exact H) | exact H
      have Ny141 := Aside0.mk hy141
      clear hy141
      by_cases c5 : x3_1.length + y141.length < 140737488355328
      ·rw [if_pos c5] at H
       have LMc5 := Aside0.mk c5
       clear c5
       obtain ⟨y144, hy144⟩ : ∃ y_ : List Int, y_ = (x3_1 ++ y141) := ⟨_, rfl⟩
       replace H : (rec_bytes.l0 k1 y144 l0 (l0.length : Int) (wrap64 (x8_1 + 1))) = some r := by first | (rw [hy144]; with_reducible exact H) | (have H2_ := (Option.bind_some _ _).symm.trans H; rw [hy144]; with_reducible exact H2_) | (have H2_ := (Option.bind_some _ _).symm.trans H; with_reducible exact H2_) | with_reducible exact H | (rw [hy144]; exact H) | exact H
       have Ny144 := Aside0.mk hy144
       clear hy144
       have H' := Aside0.mk H
       clear H
       have p140 : 0 ≤ (x8_1 : Int) := of_decide_eq_true aS
       have q140 : x8_1 < (l0.length : Int) := of_decide_eq_true aS
       obtain ⟨ad140, e140, hx140_0⟩ := Kd.at_int HR0.out x8_1 p140 q140
       cases e140
       replace hx140_0 := (HB.out.cell (World.block_lt_of_cell? w _ hx140_0)).trans hx140_0
       replace p140 := eq_true p140
       replace q140 := eq_true q140
       go_wp2_with (first | ((with_reducible refine gate_dst (N := 24) rfl ?_); refine Kd.R_lit (Kd.int .u8) _ 5 ?hg (N := 24) ?hd (xs := ([((rd l0 x8_1) / 16777216) % 256, ((rd l0 x8_1) / 65536) % 256, ((rd l0 x8_1) / 256) % 256, (rd l0 x8_1) % 256] : List Int)) (inner := [.int .u8 (((rd l0 x8_1) / 16777216) % 256), .int .u8 (((rd l0 x8_1) / 65536) % 256), .int .u8 (((rd l0 x8_1) / 256) % 256), .int .u8 ((rd l0 x8_1) % 256)]) (ok := fun _ => True) (okp := fun _ => True) ?hr ?hp (fun _ hk => hk) trivial (Below.refl _ _) (Nat.le_refl _) (by simp) ?_; (case hd => rfl); (case hg => rfl); (case hr => first | (go_simp; done) | (go_simp; rfl)); (case hp => exact (Reps.one (show Kd.M (Kd.int .u8) _ _ _ (((rd l0 x8_1) / 16777216) % 256) [.int .u8 (((rd l0 x8_1) / 16777216) % 256)] from rfl) (Reps.one (show Kd.M (Kd.int .u8) _ _ _ (((rd l0 x8_1) / 65536) % 256) [.int .u8 (((rd l0 x8_1) / 65536) % 256)] from rfl) (Reps.one (show Kd.M (Kd.int .u8) _ _ _ (((rd l0 x8_1) / 256) % 256) [.int .u8 (((rd l0 x8_1) / 256) % 256)] from rfl) (Reps.one (show Kd.M (Kd.int .u8) _ _ _ ((rd l0 x8_1) % 256) [.int .u8 ((rd l0 x8_1) % 256)] from rfl) (Reps.none _ _)))))); intro v142 w6 ho7 hb hg_ hnew_; clear hg_ hnew_; (first | rw [← Ny141.out] at ho7 | (simp only [Int.reduceToNat] at ho7; rw [← Ny141.out] at ho7)); have n0_ := Aside0.mk (Kd.R_elder' (qR HO_3.out) (Kd.R_base ho7) hb); have n1_ := Aside0.mk (Kd.R_lower (Kd.R_new' ho7 (Kd.R_lt (qR HO_3.out))) (below_size qH)); have n2_ := wH hb; clear HO_3; clear HB; have HO_3 := n0_; have HO143 := n1_; have HB := n2_; clear n0_ n1_ n2_; clear hb ho7; obtain ⟨Ao9, co9, eo9⟩ := Kd.R_slice HO143.out; subst eo9) | ((with_reducible refine gate_builtin (b := .append) (xs := #[.tmp 12, .tmp 24]) rfl ?_); at_builtin; refine Kd.R_append_rows (Kd.int .u8) (w0 := w) w.heap.size rfl (.tmp 12) (.tmp 24) 100 5 (.int .u8 0) 1 rfl Try.underlying100 info5 rfl (by decide) (by omega) u3 x3_1 y141 _ _ _ (fun k_ => some k_ ≠ (.slice Ao9 y141.length co9 : Value).ownBlock) (fun _ => False) rfl rfl ?aO ?aR (fun _ _ h => h) (fun _ h => h.elim) ?aF ?aB ?aS ?aL ?_; (case aR => repeat (first | exact (Kd.R_reads' HO143.out).2.2 | (with_reducible refine Kd.C_alloc ?_ _) | (with_reducible refine Kd.C_drewN ?_ _) | (with_reducible refine Kd.C_drew ?_))); (case aB => exact qH); (case aF => exact (fun k_ hk => Kd.fresh' (Kd.R_lt (qR HO143.out)) k_ hk)); (case aO => exact (qR (Kd.R_mono HO_3.out (fun _ hk => hk.2)))); (case aS => exact (below_size qH)); (case aL => have := LMc5.out; omega); intro v145 w8 ho hb hg hat; rw [← Ny144.out] at ho; have n0_ := Aside0.mk (Kd.R_after (ok := (fun _ => True)) (qR HO143.out) hg hat); have n1_ := Aside0.mk (hb); have n2_ := Aside0.mk (ho); clear HO143; clear HB; clear HO_3; have HB := n1_; have HO146 := n2_; clear n0_ n1_ n2_; clear ho hb hg hat))
       go_roundg k1
       case measure => have := HK1.out; omega
       case rel => exact ⟨(y144), (wrap64 (x8_1 + 1)), eY, H', ⟨by have := HK1.out; omega⟩, ⟨by (with_reducible repeat (first | apply Kd.R_alloc | apply Kd.R_drewN | apply Kd.R_drew)); exact Kd.R_mono HO146.out (fun _ hk => trivial)⟩, ⟨qH⟩⟩
      ·rw [if_neg c5] at H
       exact absurd H (by simp)
     ·rw [if_neg c4] at H
      exact absurd H (by simp)
    ·rw [if_neg c3] at H
     exact absurd H (by simp)
   ·rw [if_neg c2] at H
    have c2b0 : decide (x8_1 < (l0.length : Int)) = false := decide_eq_false c2
    clear c2
    obtain rfl := Option.some.inj H
    have hcv10 := own_string (P := Try.prog) Try.underlying100 Try.underlying5 Try.underlying9 (Kd.own_of_R HO_3.out)
    go_wp2
    go_ret
    exact ⟨eX, qH⟩
def rec_number.l0 : Nat → ByteArray → Int → Int → Int → Option (Int)
 | 0, _, _, _, _ => none
 | k + 1, x0, x1, x5, x7 => if x7 < 4 then (if 0 ≤ (wrap64 ((wrap64 (2 + (wrap64 (4 * x1)))) + x7)) then (if (wrap64 ((wrap64 (2 + (wrap64 (4 * x1)))) + x7)) < (x0.size : Int) then (rec_number.l0 k x0 x1 (Go.bits .or .i64 (wrap64 (x5 * 256)) (wrap64 (bt x0 (wrap64 ((wrap64 (2 + (wrap64 (4 * x1)))) + x7))))) (wrap64 (x7 + 1))) else (none)) else (none)) else (some x5)
def rec_number.f (k : Nat) (a0 : ByteArray) (a1 : Int) : Option (Int) := rec_number.l0 k a0 a1 0 0
theorem rec_number.mono_l : ∀ k, (∀ y0 y1 y2 y3, LeO (rec_number.l0 k y0 y1 y2 y3) (rec_number.l0 (k + 1) y0 y1 y2 y3))
 | 0 => fun _ _ _ _ r h => by simp [rec_number.l0] at h
 | k + 1 => by
  have ih0 := rec_number.mono_l k
  ·intro y0 y1 y2 y3
   unfold rec_number.l0
   repeat' first
   | (with_reducible exact ih0 _ _ _ _)
   | (with_reducible exact LeO.refl _)
   | (with_reducible exact LeO.none _)
   | (with_reducible refine LeO.ite ?_ ?_)
   | (with_reducible refine LeO.bind ?_ (fun _ => ?_))
   | exact ih0 _ _ _ _
   | exact LeO.none _
   | refine LeO.ite ?_ ?_
   | refine LeO.bind ?_ (fun _ => ?_)
theorem rec_number.mono : ∀ a0 a1 k, LeO (rec_number.f k a0 a1) (rec_number.f (k + 1) a0 a1) := by
 intro a0 a1 k
 have ih0 := rec_number.mono_l k
 unfold rec_number.f
 repeat' first
   | (with_reducible exact ih0 _ _ _ _)
   | (with_reducible exact LeO.refl _)
   | (with_reducible exact LeO.none _)
   | (with_reducible refine LeO.ite ?_ ?_)
   | (with_reducible refine LeO.bind ?_ (fun _ => ?_))
   | exact ih0 _ _ _ _
   | exact LeO.none _
   | refine LeO.ite ?_ ?_
   | refine LeO.bind ?_ (fun _ => ?_)
set_option maxHeartbeats 8000000 in
set_option maxRecDepth 100000 in
theorem rec_number.calls (k : Nat) (a0 : ByteArray) (a1 : Int) (r : Int) (w : World) (h : rec_number.f k a0 a1 = some r) :
  Calls Try.prog 71 #[.string a0, .int .i64 a1] w fun e w' => e = .returned (.int .i64 r) ∧ Drawn0 w w' := by
 have H : (rec_number.l0 k a0 a1 0 0) = some r := h
 clear h
 have H' := Aside0.mk H
 clear H
 go_enter Try.func71, Try.ntmps71
 go_wp2
 go_loopg [5, 7] k (fun kq v5 v7 w' => ∃ (x5_1 : Int) (x7_1 : Int), v5 = .int .i64 x5_1 ∧ v7 = .int .i64 x7_1 ∧ Aside0 (rec_number.l0 kq a0 a1 x5_1 x7_1 = some r) ∧ Aside0 (kq ≤ k) ∧ Drawn0 w w')
 case atStart => exact ⟨(0), (0), eY, eY, H', ⟨Nat.le_refl _⟩, by repeat (first | exact Drawn0.refl _ | apply Drawn0.step)⟩
 case round =>
  clear H'
  (try clear p2)
  obtain ⟨x5_1, x7_1, rfl, rfl, HA, HK1, ⟨m1, rfl⟩⟩ := hrel
  cases gk with
  | zero => exact absurd HA.out (by simp [rec_number.l0])
  | succ k1 =>
   have H := HA.out
   clear HA
   simp only [rec_number.l0] at H
   by_cases c3 : x7_1 < 4
   ·rw [if_pos c3] at H
    have c3b0 : decide (x7_1 < 4) = true := decide_eq_true c3
    clear c3
    obtain ⟨ji4, hji4⟩ : ∃ j_ : Int, (wrap64 ((wrap64 (2 + (wrap64 (4 * a1)))) + x7_1)) = j_ := ⟨_, rfl⟩
    replace H : (if 0 ≤ (ji4) then (if (ji4) < (a0.size : Int) then (rec_number.l0 k1 a0 a1 (Go.bits .or .i64 (wrap64 (x5_1 * 256)) (wrap64 (bt a0 (ji4)))) (wrap64 (x7_1 + 1))) else (none)) else (none)) = some r := by first | (rw [hji4] at H; exact H) | (simp only [hji4] at H ⊢; exact H)
    have hji4w : (IntKind.i64.wrap ((wrap64 (2 + (wrap64 (4 * a1)))) + x7_1)) = ji4 := (i64_w _).trans hji4
    by_cases c5 : 0 ≤ (ji4)
    ·rw [if_pos c5] at H
     have c5b0 : decide (0 ≤ (ji4)) = true := decide_eq_true c5
     clear c5
     by_cases c6 : (ji4) < (a0.size : Int)
     ·rw [if_pos c6] at H
      have c6b0 : decide ((ji4) < (a0.size : Int)) = true := decide_eq_true c6
      clear c6
      have H' := Aside0.mk H
      clear H
      have p7 : 0 ≤ ((ji4) : Int) := of_decide_eq_true aS
      have q7 : (ji4) < (a0.size : Int) := of_decide_eq_true aS
      have hx7 := bt_at a0 (ji4)
      replace p7 := eq_true p7
      replace q7 := eq_true q7
      go_wp2
      go_roundg k1
      case measure => have := HK1.out; omega
      case rel => exact ⟨(Go.bits .or .i64 (wrap64 (x5_1 * 256)) (wrap64 (bt a0 (ji4)))), (wrap64 (x7_1 + 1)), (by first | rfl | (simp; done) | (simp only [← hji4] <;> (first | rfl | simp)) | (simp [*]; done)), eY, H', ⟨by have := HK1.out; omega⟩, by repeat (first | exact Drawn0.refl _ | apply Drawn0.step)⟩
     ·rw [if_neg c6] at H
      exact absurd H (by simp)
    ·rw [if_neg c5] at H
     exact absurd H (by simp)
   ·rw [if_neg c3] at H
    have c3b0 : decide (x7_1 < 4) = false := decide_eq_false c3
    clear c3
    obtain rfl := Option.some.inj H
    go_wp2
    go_ret
    exact ⟨by first | rfl | (simp; done) | (simp [*]; done), by repeat (first | exact Drawn0.refl _ | apply Drawn0.step)⟩
def sum_Of.f (k : Nat) (a0 : ByteArray) : Option (Int) := (sum_Roll.f k 1 a0).bind fun t175 => (some t175)
theorem sum_Of.mono : ∀ a0 k, LeO (sum_Of.f k a0) (sum_Of.f (k + 1) a0) := by
 intro a0 k
 unfold sum_Of.f
 repeat' first
   | (with_reducible exact sum_Roll.mono _ _ _)
   | (with_reducible exact LeO.refl _)
   | (with_reducible exact LeO.none _)
   | (with_reducible refine LeO.ite ?_ ?_)
   | (with_reducible refine LeO.bind ?_ (fun _ => ?_))
   | exact sum_Roll.mono _ _ _
   | exact LeO.none _
   | refine LeO.ite ?_ ?_
   | refine LeO.bind ?_ (fun _ => ?_)
set_option maxHeartbeats 8000000 in
set_option maxRecDepth 100000 in
theorem sum_Of.calls (k : Nat) (a0 : ByteArray) (r : Int) (w : World) (h : sum_Of.f k a0 = some r) :
  Calls Try.prog 54 #[.string a0] w fun e w' => e = .returned (.int .i64 r) ∧ Drawn0 w w' := by
 have H : ((sum_Roll.f k 1 a0).bind fun t175 => (some t175)) = some r := h
 clear h
 replace H := Option.bind_eq_some_iff.mp H
 obtain ⟨t175, A20, H⟩ := H
 try dsimp only at H
 have A2 := Aside0.mk A20
 clear A20
 obtain rfl := Option.some.inj H
 go_enter Try.func54, Try.ntmps54
 go_wp2_with (first | ((with_reducible refine gate_callee (f := 72) rfl ?_); refine gL (some 4) Try.func72 #[.int .i64 1, .string a0] ?_; (with_reducible refine (sum_Roll.calls k 1 a0 t175 _ A2.out).mono ?_); rintro e w' ⟨rfl, ⟨nd, rfl⟩⟩; refine ⟨_, rfl, ?_⟩) | (go_at_call 72; (with_reducible refine (sum_Roll.calls k 1 a0 t175 _ A2.out).mono ?_); rintro e w' ⟨rfl, ⟨nd, rfl⟩⟩))
 go_ret
 exact ⟨by first | rfl | (simp; done) | (simp [*]; done), by repeat (first | exact Drawn0.refl _ | apply Drawn0.step)⟩
def rec_Count.f (a0 : Int) : Option (Int) := (rec_in.f a0 0 4096).bind fun t180 => (if t180 = true then (some (wrap64 (Int.tdiv (wrap64 ((wrap64 (a0 + 31)) - 1)) 31))) else (some (-1)))
set_option maxHeartbeats 8000000 in
set_option maxRecDepth 100000 in
theorem rec_Count.calls (a0 : Int) (r : Int) (w : World) (h : rec_Count.f a0 = some r) :
  Calls Try.prog 43 #[.int .i64 a0] w fun e w' => e = .returned (.int .i64 r) ∧ Drawn0 w w' := by
 have H := h
 unfold rec_Count.f at H
 clear h
 replace H := Option.bind_eq_some_iff.mp H
 obtain ⟨t180, A20, H⟩ := H
 try dsimp only at H
 have A2 := Aside0.mk A20
 clear A20
 by_cases c3 : t180 = true
 ·subst c3
  rw [if_pos rfl] at H
  obtain rfl := Option.some.inj H
  go_enter Try.func43, Try.ntmps43
  go_wp2_with (first | ((with_reducible refine gate_callee (f := 62) rfl ?_); refine gL (some 4) Try.func62 #[.int .i64 a0, .int .i64 0, .int .i64 4096] ?_; (with_reducible refine (rec_in.calls a0 0 4096 true _ A2.out).mono ?_); rintro e w' ⟨rfl, ⟨nd, rfl⟩⟩; refine ⟨_, rfl, ?_⟩) | (go_at_call 62; (with_reducible refine (rec_in.calls a0 0 4096 true _ A2.out).mono ?_); rintro e w' ⟨rfl, ⟨nd, rfl⟩⟩))
  go_ret
  exact ⟨by first | rfl | (simp; done) | (simp [*]; done), by repeat (first | exact Drawn0.refl _ | apply Drawn0.step)⟩
 ·replace c3 := Bool.eq_false_iff.mpr c3
  subst c3
  rw [if_neg nF_] at H
  obtain rfl := Option.some.inj H
  go_enter Try.func43, Try.ntmps43
  go_wp2_with (first | ((with_reducible refine gate_callee (f := 62) rfl ?_); refine gL (some 4) Try.func62 #[.int .i64 a0, .int .i64 0, .int .i64 4096] ?_; (with_reducible refine (rec_in.calls a0 0 4096 false _ A2.out).mono ?_); rintro e w' ⟨rfl, ⟨nd, rfl⟩⟩; refine ⟨_, rfl, ?_⟩) | (go_at_call 62; (with_reducible refine (rec_in.calls a0 0 4096 false _ A2.out).mono ?_); rintro e w' ⟨rfl, ⟨nd, rfl⟩⟩))
  go_ret
  exact ⟨by first | rfl | (simp; done) | (simp [*]; done), by repeat (first | exact Drawn0.refl _ | apply Drawn0.step)⟩
end Go.Proofs.Ythoddglnfdmdeaa.P
