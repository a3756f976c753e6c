/- Printed functions, merged. -/
import Derived.Test.YtnoafmnjnmlhmaaProg
import Derived.Below
import Derived.Deep.Draws
import Derived.Deep.AppendLies
import Derived.Maps.AppendAt
import Derived.OwnWalk
import Derived.Laws.BytesArg
import Derived.Laws.MakeOwn
import Derived.Laws.OwnMore
import Derived.Deep.OwnRows
import Derived.Tactics
import Derived.Lib.ConvBytes
import Derived.Laws.Slices
import Derived.WalkKit
import Derived.KernelRfl
import Derived.RowKit3
import Derived.Deep.LoopGhost
import Derived.Deep.QuietTactic
import Derived.BigQuiet
import Derived.WideLaws
import Derived.Deep.DeepCutAuto
import Derived.Deep.CutBlock
import Derived.Deep.RegionHeld3
import Derived.Laws.Rows
import Derived.Lib.AppendStr
import Derived.ArgAppend
import Derived.Laws.IdiomCopy
import Derived.OrdersHeld
import Derived.Laws.BitsLemmas
import Derived.RowKit
import Derived.Test.YtnoafmnjnmlhmaaZDTWWords
import Derived.Test.YtnoafmnjnmlhmaaZDTWLast
import Derived.Test.YtnoafmnjnmlhmaaZDTWTab
import Derived.Test.YtnoafmnjnmlhmaaZDTWApart
import Derived.Test.YtnoafmnjnmlhmaaZDTWFoot
import Derived.Test.YtnoafmnjnmlhmaaZDTWKept
import Derived.Test.YtnoafmnjnmlhmaaZDTWShare
import Derived.Test.YtnoafmnjnmlhmaaZDTWN
import Derived.Test.YtnoafmnjnmlhmaaZDTWEqStruct
import Derived.Test.YtnoafmnjnmlhmaaZDTWRepsOne
import Derived.Test.YtnoafmnjnmlhmaaZDTWInv
import Derived.Test.YtnoafmnjnmlhmaaZDTWGuard
import Derived.Test.YtnoafmnjnmlhmaaZDTWMore
import Derived.Test.YtnoafmnjnmlhmaaZDTAl
namespace Go.Proofs.Ytnoafmnjnmlhmaa.P
open Go.RowKit Go.Proofs.YtnoafmnjnmlhmaaW.PrintWords Go.Proofs.YtnoafmnjnmlhmaaW.PrintLast Go.Proofs.YtnoafmnjnmlhmaaW.PrintMore
attribute [local go_sem] max2_int min2_int max_two min_two max_three min_three max_four min_four   -- for this text's walks alone
set_option linter.unusedVariables false
set_option linter.unusedSimpArgs false
def errW : Option Int → Value
 | none => .nilIface
 | some c => .iface 0 (.int .i64 c)
theorem errW_none : errW none = .nilIface := rfl
theorem errW_some (c : Int) : errW (some c) = .iface 0 (.int .i64 c) := rfl
theorem info4 : (Try.prog.info? 4).map (fun i => (i.zero, i.size, i.bytes)) = some (some (.bool false), 1, 1) := by kernel_rfl
theorem info9 : (Try.prog.info? 9).map (fun i => (i.zero, i.size, i.bytes)) = some (some (.string ⟨#[]⟩), 1, 16) := by kernel_rfl
theorem info27 : (Try.prog.info? 27).map (fun i => (i.zero, i.size, i.bytes)) = some (some (.agg #[(.int .i64 0), (.string ⟨#[]⟩)]), 2, 24) := by kernel_rfl
structure S27 where
 f0 : Int
 f1 : ByteArray
def z27 : S27 := ⟨(0 : Int), (⟨#[]⟩ : ByteArray)⟩
def k27 : Kd S27 := Kd.iso (Kd.pair (Kd.int .i64) Kd.string) (fun x : S27 => (x.f0, x.f1))
theorem k27_heap : Kd.Heap k27 := Kd.heap_iso _ (Kd.heap_pair (Kd.heap_int .i64) Kd.heap_string)
theorem k27_open {w : World} {x : S27} {cs : List Value} (h : k27.K w x cs) : cs = [.int .i64 x.f0, .string x.f1] := by
 obtain ⟨_, _, rfl, rfl, rfl⟩ := h
 exact rfl
theorem k27_mk (w : World) (x : S27)  : k27.K w x [.int .i64 x.f0, .string x.f1] := ⟨[.int .i64 x.f0], [.string x.f1], rfl, rfl, rfl⟩
theorem k27_mkM (w : World) (base : Nat) (ok : Nat → Prop) (x : S27)  : k27.M w base ok x [.int .i64 x.f0, .string x.f1] := ⟨[.int .i64 x.f0], [.string x.f1], rfl, rfl, rfl⟩
def rd_T27 (xs : List S27) (i : Int) : S27 := xs.getD i.toNat z27
theorem at_T27 {w : World} {A : Option Addr} {n : Nat} {xs : List S27} (h : Kd.C k27 w A n xs) (i : Int) (h0 : 0 ≤ i) (h1 : i < n) : ∃ ad , A = some ad ∧ w.cell? (ad.add (i.toNat * 2)) = some (.int .i64 (rd_T27 xs i).f0) ∧ w.cell? ⟨(ad.add (i.toNat * 2)).block, (ad.add (i.toNat * 2)).off + 1, none⟩ = some (.string (rd_T27 xs i).f1) := by
 obtain ⟨ad, c, e, _, hK, hc0⟩ := Kd.C_get h z27 i h0 h1
 have hc : ∀ j u, c[j]? = some u → w.cell? (ad.add (i.toNat * 2 + j)) = some u := hc0
 obtain rfl := k27_open hK
 exact ⟨ad, e, hc 0 _ rfl, by rw [← add_field _ _ 1 (by omega)]; exact hc 1 _ rfl⟩
structure S49 where
 f0 : Bool
 f1 : Int
 f2 : ByteArray
def z49 : S49 := ⟨false, (0 : Int), (⟨#[]⟩ : ByteArray)⟩
def rd_T49 (xs : List S49) (i : Int) : S49 := xs.getD i.toNat z49
theorem eqA27 (d : Nat) (w : World) (x0 y0 : Int) (x1 y1 : ByteArray) :
  (Op.equalIn (d + 2) 27 (.agg #[.int .i64 x0, .string x1]) (.agg #[.int .i64 y0, .string y1])).run Try.prog w = .ok (x0 == y0 && (x1.toList == y1.toList)) w := by
 refine eqA_of Try.underlying27 (by kernel_rfl) ?_
 refine eqf_cons (by rfl) (by go_simp; rfl) (by go_simp; rfl) (by go_simp) ?_
 exact eqf_last (by rfl) (by go_simp; rfl) (by go_simp; rfl) (by go_simp)
mutual
def armadaref01_Small.l0 : Nat → Int → List ByteArray → List (S27) → Option (Bool)
 | 0, _, _, _ => none
 | k + 1, x3, x102000, x102001 => if x3 < (x102000.length : Int) then (if 0 ≤ x3 then (if ((rdOf ByteArray.empty x102000 x3).size : Int) > 100 then (some false) else (if (x102000.length : Int) > 600 then (some false) else (armadaref01_Small.l0 k (wrap64 (x3 + 1)) x102000 x102001))) else (none)) else (armadaref01_Small.l1 k 0 x102000 x102001)
def armadaref01_Small.l1 : Nat → Int → List ByteArray → List (S27) → Option (Bool)
 | 0, _, _, _ => none
 | k + 1, x4, x102000, x102001 => if x4 < (x102001.length : Int) then (if 0 ≤ x4 then (if (((rd_T27 x102001 x4).f1).size : Int) > 100 then (some false) else (if (x102001.length : Int) > 200 then (some false) else (armadaref01_Small.l1 k (wrap64 (x4 + 1)) x102000 x102001))) else (none)) else (some true)
end
def armadaref01_Small.f (k : Nat) (l0_0 : List ByteArray) (l0_1 : List (S27)) : Option (Bool) := armadaref01_Small.l0 k 0 l0_0 l0_1
theorem armadaref01_Small.mono_l : ∀ k, (∀ y0 y1 y2, LeO (armadaref01_Small.l0 k y0 y1 y2) (armadaref01_Small.l0 (k + 1) y0 y1 y2)) ∧ (∀ y0 y1 y2, LeO (armadaref01_Small.l1 k y0 y1 y2) (armadaref01_Small.l1 (k + 1) y0 y1 y2))
 | 0 => ⟨fun _ _ _ r h => by simp [armadaref01_Small.l0] at h, fun _ _ _ r h => by simp [armadaref01_Small.l1] at h⟩
 | k + 1 => by
  obtain ⟨ih0, ih1⟩ := armadaref01_Small.mono_l k
  refine ⟨?_, ?_⟩
  ·intro y0 y1 y2
   unfold armadaref01_Small.l0
   repeat' first
   | (with_reducible exact ih0 _ _ _)
   | (with_reducible exact ih1 _ _ _)
   | (with_reducible exact LeO.refl _)
   | (with_reducible exact LeO.none _)
   | (with_reducible refine LeO.ite ?_ ?_)
   | (with_reducible refine LeO.bind ?_ (fun _ => ?_))
   | exact ih0 _ _ _
   | exact ih1 _ _ _
   | exact LeO.none _
   | refine LeO.ite ?_ ?_
   | refine LeO.bind ?_ (fun _ => ?_)
  ·intro y0 y1 y2
   unfold armadaref01_Small.l1
   repeat' first
   | (with_reducible exact ih0 _ _ _)
   | (with_reducible exact ih1 _ _ _)
   | (with_reducible exact LeO.refl _)
   | (with_reducible exact LeO.none _)
   | (with_reducible refine LeO.ite ?_ ?_)
   | (with_reducible refine LeO.bind ?_ (fun _ => ?_))
   | exact ih0 _ _ _
   | exact ih1 _ _ _
   | exact LeO.none _
   | refine LeO.ite ?_ ?_
   | refine LeO.bind ?_ (fun _ => ?_)
theorem armadaref01_Small.mono : ∀ a0 a1 k, LeO (armadaref01_Small.f k a0 a1) (armadaref01_Small.f (k + 1) a0 a1) := by
 intro a0 a1 k
 obtain ⟨ih0, ih1⟩ := armadaref01_Small.mono_l k
 unfold armadaref01_Small.f
 repeat' first
   | (with_reducible exact ih0 _ _ _)
   | (with_reducible exact ih1 _ _ _)
   | (with_reducible exact LeO.refl _)
   | (with_reducible exact LeO.none _)
   | (with_reducible refine LeO.ite ?_ ?_)
   | (with_reducible refine LeO.bind ?_ (fun _ => ?_))
   | exact ih0 _ _ _
   | exact ih1 _ _ _
   | exact LeO.none _
   | refine LeO.ite ?_ ?_
   | refine LeO.bind ?_ (fun _ => ?_)
set_option maxHeartbeats 8000000 in
set_option maxRecDepth 100000 in
theorem armadaref01_Small.calls (k : Nat) (A0_0 : Option Addr) (c0_0 : Nat) (l0_0 : List ByteArray) (A0_1 : Option Addr) (c0_1 : Nat) (l0_1 : List (S27)) (r : Bool) (w : World) (hr0_0 : Kd.C Kd.string w A0_0 l0_0.length l0_0) (hc0_0 : l0_0.length ≤ c0_0) (hr0_1 : Kd.C k27 w A0_1 l0_1.length l0_1) (hc0_1 : l0_1.length ≤ c0_1) (h : armadaref01_Small.f k l0_0 l0_1 = some r) :
  Calls Try.prog 9 #[.agg #[.slice A0_0 l0_0.length c0_0, .slice A0_1 l0_1.length c0_1]] w fun e w' => e = .returned (.bool r) ∧ Below w.heap.size w w' := by
 have hu25 := Try.underlying25
 have HR0_0 := Aside0.mk hr0_0
 have HC0_0 := Aside0.mk hc0_0
 clear hr0_0 hc0_0
 have HR0_1 := Aside0.mk hr0_1
 have HC0_1 := Aside0.mk hc0_1
 clear hr0_1 hc0_1
 have HB := Aside0.mk (Below.refl w.heap.size w)
 have H : (armadaref01_Small.l0 k 0 l0_0 l0_1) = some r := h
 clear h
 have H' := Aside0.mk H
 clear H
 go_enter Try.func9, Try.ntmps9
 go_wp2_with (first | ((with_reducible refine gate_dst (N := 1) rfl ?_); (try (refine gate_guard (by rfl) ?_; dsimp only)); refine box_event ?hg (N := 1) ?hd (cs := #[.slice A0_0 l0_0.length c0_0, .slice A0_1 l0_1.length c0_1]) (t := 25) ?hr ?_; (case hd => rfl); (case hg => rfl); (case hr => first | (go_simp; done) | (go_simp; rfl)); intro gb101 hg w2 hbox hb; have n0_ := Aside0.mk (below_step (by repeat (first | (with_reducible first | exact HB.out | apply yA_ | apply yN_ | apply yD_) | exact HB.out)) hb); have n1_ := Aside0.mk (hbox); have n2_ := Aside0.mk ((by rw [hg]; exact (below_size (by repeat (first | (with_reducible first | exact HB.out | apply yA_ | apply yN_ | apply yD_) | exact HB.out))) : w.heap.size ≤ gb101)); have n3_ := Aside0.mk ((by rw [hg]; exact (below_size (by repeat (first | (with_reducible first | exact HB.out | apply yA_ | apply yN_ | apply yD_) | exact HB.out))) : w.heap.size ≤ gb101)); clear HB; have HB := n0_; have BK101 := n1_; have GW101 := n2_; have GE101 := n3_; clear n0_ n1_ n2_ n3_; clear hb hbox hg))
 go_loopg [3] k (fun kq v3 w' => ∃ (x3_1 : Int), v3 = .int .i64 x3_1 ∧ Aside0 (armadaref01_Small.l0 kq x3_1 l0_0 l0_1 = some r) ∧ Aside0 (kq ≤ k) ∧ Aside0 (w'.heap[gb101]? = some (.cells #[(.slice A0_0 l0_0.length c0_0), (.slice A0_1 l0_1.length c0_1)] 25 (0, 0))) ∧ Aside0 (Below w.heap.size w w'))
 case atStart => exact ⟨(0), (by first | rfl | (simp; done) | (simp [*]; done)), H', ⟨Nat.le_refl _⟩, ⟨by (with_reducible repeat (first | apply xN_ | apply xD_ | apply xA_)); exact BK101.out⟩, ⟨by repeat (first | (with_reducible first | exact HB.out | apply yA_ | apply yN_ | apply yD_ | refine yS_ ?_ GE101.out) | exact HB.out)⟩⟩
 case round =>
  clear H'
  (try clear p2)
  obtain ⟨x3_1, rfl, HA, HK1, BK101, HB⟩ := hrel
  cases gk with
  | zero => exact absurd HA.out (by simp [armadaref01_Small.l0])
  | succ k1 =>
   have H := HA.out
   clear HA
   simp only [armadaref01_Small.l0] at H
   by_cases c3 : x3_1 < (l0_0.length : Int)
   ·rw [if_pos c3] at H
    have c3b0 : decide (x3_1 < (l0_0.length : Int)) = true := decide_eq_true c3
    clear c3
    by_cases c4 : 0 ≤ x3_1
    ·rw [if_pos c4] at H
     have c4b0 : decide (0 ≤ x3_1) = true := decide_eq_true c4
     clear c4
     by_cases c5 : ((rdOf ByteArray.empty l0_0 x3_1).size : Int) > 100
     ·rw [if_pos c5] at H
      have c5b0 : decide (100 < ((rdOf ByteArray.empty l0_0 x3_1).size : Int)) = true := decide_eq_true c5
      have c5b1 : decide (100 < (rdOf ByteArray.empty l0_0 x3_1).size) = true := decide_eq_true (by omega)
      clear c5
      obtain rfl := Option.some.inj H
      have hcz6_0 : wr.cell? ⟨gb101, 0, none⟩ = some (.slice A0_0 l0_0.length c0_0) := (xC_ BK101.out 0).trans rfl
      have hcz6_1 : wr.cell? ⟨gb101, 1, none⟩ = some (.slice A0_1 l0_1.length c0_1) := (xC_ BK101.out 1).trans rfl
      have hfz6_0 := xF_ BK101.out 0
      have hfz6_1 := xF_ BK101.out 1
      have p102 : 0 ≤ (x3_1 : Int) := of_decide_eq_true (by first | (with_reducible assumption) | assumption)
      have q102 : x3_1 < (l0_0.length : Int) := of_decide_eq_true (by first | (with_reducible assumption) | assumption)
      obtain ⟨ad102, e102, hx102_0⟩ := Kd.at_string HR0_0.out x3_1 p102 q102
      cases e102
      replace hx102_0 := (HB.out.cell (World.block_lt_of_cell? w _ hx102_0)).trans hx102_0
      replace p102 := eq_true p102
      replace q102 := eq_true q102
      go_wp2
      go_ret
      exact ⟨by first | rfl | (simp [errW_none, errW_some] <;> rfl) | (simp [*, errW_none, errW_some] <;> rfl), by repeat (first | (with_reducible first | exact HB.out | apply yA_ | apply yN_ | apply yD_ | refine yS_ ?_ GE101.out) | exact HB.out)⟩
     ·rw [if_neg c5] at H
      have c5b0 : decide (100 < ((rdOf ByteArray.empty l0_0 x3_1).size : Int)) = false := decide_eq_false c5
      have c5b1 : decide (100 < (rdOf ByteArray.empty l0_0 x3_1).size) = false := decide_eq_false (by omega)
      clear c5
      by_cases c7 : (l0_0.length : Int) > 600
      ·rw [if_pos c7] at H
       have c7b0 : decide (600 < (l0_0.length : Int)) = true := decide_eq_true c7
       have c7b1 : decide (600 < l0_0.length) = true := decide_eq_true (by omega)
       clear c7
       obtain rfl := Option.some.inj H
       have hcz8_0 : wr.cell? ⟨gb101, 0, none⟩ = some (.slice A0_0 l0_0.length c0_0) := (xC_ BK101.out 0).trans rfl
       have hcz8_1 : wr.cell? ⟨gb101, 1, none⟩ = some (.slice A0_1 l0_1.length c0_1) := (xC_ BK101.out 1).trans rfl
       have hfz8_0 := xF_ BK101.out 0
       have hfz8_1 := xF_ BK101.out 1
       have p102 : 0 ≤ (x3_1 : Int) := of_decide_eq_true (by first | (with_reducible assumption) | assumption)
       have q102 : x3_1 < (l0_0.length : Int) := of_decide_eq_true (by first | (with_reducible assumption) | assumption)
       obtain ⟨ad102, e102, hx102_0⟩ := Kd.at_string HR0_0.out x3_1 p102 q102
       cases e102
       replace hx102_0 := (HB.out.cell (World.block_lt_of_cell? w _ hx102_0)).trans hx102_0
       replace p102 := eq_true p102
       replace q102 := eq_true q102
       go_wp2
       go_ret
       exact ⟨by first | rfl | (simp [errW_none, errW_some] <;> rfl) | (simp [*, errW_none, errW_some] <;> rfl), by repeat (first | (with_reducible first | exact HB.out | apply yA_ | apply yN_ | apply yD_ | refine yS_ ?_ GE101.out) | exact HB.out)⟩
      ·rw [if_neg c7] at H
       have c7b0 : decide (600 < (l0_0.length : Int)) = false := decide_eq_false c7
       have c7b1 : decide (600 < l0_0.length) = false := decide_eq_false (by omega)
       clear c7
       have H' := Aside0.mk H
       clear H
       have hcz9_0 : wr.cell? ⟨gb101, 0, none⟩ = some (.slice A0_0 l0_0.length c0_0) := (xC_ BK101.out 0).trans rfl
       have hcz9_1 : wr.cell? ⟨gb101, 1, none⟩ = some (.slice A0_1 l0_1.length c0_1) := (xC_ BK101.out 1).trans rfl
       have hfz9_0 := xF_ BK101.out 0
       have hfz9_1 := xF_ BK101.out 1
       have p102 : 0 ≤ (x3_1 : Int) := of_decide_eq_true (by first | (with_reducible assumption) | assumption)
       have q102 : x3_1 < (l0_0.length : Int) := of_decide_eq_true (by first | (with_reducible assumption) | assumption)
       obtain ⟨ad102, e102, hx102_0⟩ := Kd.at_string HR0_0.out x3_1 p102 q102
       cases e102
       replace hx102_0 := (HB.out.cell (World.block_lt_of_cell? w _ hx102_0)).trans hx102_0
       replace p102 := eq_true p102
       replace q102 := eq_true q102
       go_wp2
       go_roundg k1
       case measure => have := HK1.out; omega
       case rel => exact ⟨(wrap64 (x3_1 + 1)), (by first | rfl | (simp; done) | (simp [*]; done)), H', ⟨by have := HK1.out; omega⟩, ⟨by (with_reducible repeat (first | apply xN_ | apply xD_ | apply xA_)); exact BK101.out⟩, ⟨by repeat (first | (with_reducible first | exact HB.out | apply yA_ | apply yN_ | apply yD_ | refine yS_ ?_ GE101.out) | exact HB.out)⟩⟩
    ·rw [if_neg c4] at H
     exact absurd H (by simp)
   ·rw [if_neg c3] at H
    have c3b0 : decide (x3_1 < (l0_0.length : Int)) = false := decide_eq_false c3
    clear c3
    have H' := Aside0.mk H
    clear H
    have hcz10_0 : wr.cell? ⟨gb101, 0, none⟩ = some (.slice A0_0 l0_0.length c0_0) := (xC_ BK101.out 0).trans rfl
    have hcz10_1 : wr.cell? ⟨gb101, 1, none⟩ = some (.slice A0_1 l0_1.length c0_1) := (xC_ BK101.out 1).trans rfl
    have hfz10_0 := xF_ BK101.out 0
    have hfz10_1 := xF_ BK101.out 1
    go_wp2
    go_loopg [4] k1 (fun kq v4 w' => ∃ (x4_2 : Int), v4 = .int .i64 x4_2 ∧ Aside0 (armadaref01_Small.l1 kq x4_2 l0_0 l0_1 = some r) ∧ Aside0 (kq ≤ k1) ∧ Aside0 (w'.heap[gb101]? = some (.cells #[(.slice A0_0 l0_0.length c0_0), (.slice A0_1 l0_1.length c0_1)] 25 (0, 0))) ∧ Aside0 (Below w.heap.size w w'))
    case atStart => exact ⟨(0), (by first | rfl | (simp; done) | (simp [*]; done)), H', ⟨Nat.le_refl _⟩, ⟨by (with_reducible repeat (first | apply xN_ | apply xD_ | apply xA_)); exact BK101.out⟩, ⟨by repeat (first | (with_reducible first | exact HB.out | apply yA_ | apply yN_ | apply yD_ | refine yS_ ?_ GE101.out) | exact HB.out)⟩⟩
    case round =>
     clear H'
     (try clear p1); (try clear q1); (try clear hx1); (try clear p2); (try clear c3); (try clear c3b0); (try clear c4); (try clear c4b0); (try clear c5); (try clear c5b0)
     (try clear c5b1); (try clear p6); (try clear c7); (try clear c7b0); (try clear c7b1); (try clear c9); (try clear p10); (try clear q10); (try clear hx10); (try clear hcz10_0)
     (try clear hcz10_1); (try clear hcz6_0); (try clear hcz6_1); (try clear hcz8_0); (try clear hcz8_1); (try clear hcz9_0); (try clear hcz9_1); (try clear hfz10_0)
     (try clear hfz10_1); (try clear hfz6_0); (try clear hfz6_1); (try clear hfz8_0); (try clear hfz8_1); (try clear hfz9_0); (try clear hfz9_1); (try clear hx102_0)
     (try clear p102); (try clear p2); (try clear q102)
     obtain ⟨x4_2, rfl, HA, HK2, BK101, HB⟩ := hrel
     cases gk with
     | zero => exact absurd HA.out (by simp [armadaref01_Small.l1])
     | succ k2 =>
      have H := HA.out
      clear HA
      simp only [armadaref01_Small.l1] at H
      by_cases c11 : x4_2 < (l0_1.length : Int)
      ·rw [if_pos c11] at H
       have c11b0 : decide (x4_2 < (l0_1.length : Int)) = true := decide_eq_true c11
       clear c11
       by_cases c12 : 0 ≤ x4_2
       ·rw [if_pos c12] at H
        have c12b0 : decide (0 ≤ x4_2) = true := decide_eq_true c12
        clear c12
        by_cases c13 : (((rd_T27 l0_1 x4_2).f1).size : Int) > 100
        ·rw [if_pos c13] at H
         have c13b0 : decide (100 < (((rd_T27 l0_1 x4_2).f1).size : Int)) = true := decide_eq_true c13
         have c13b1 : decide (100 < ((rd_T27 l0_1 x4_2).f1).size) = true := decide_eq_true (by omega)
         clear c13
         obtain rfl := Option.some.inj H
         have hcz14_0 : wr.cell? ⟨gb101, 0, none⟩ = some (.slice A0_0 l0_0.length c0_0) := (xC_ BK101.out 0).trans rfl
         have hcz14_1 : wr.cell? ⟨gb101, 1, none⟩ = some (.slice A0_1 l0_1.length c0_1) := (xC_ BK101.out 1).trans rfl
         have hfz14_0 := xF_ BK101.out 0
         have hfz14_1 := xF_ BK101.out 1
         have p103 : 0 ≤ (x4_2 : Int) := of_decide_eq_true (by first | (with_reducible assumption) | assumption)
         have q103 : x4_2 < (l0_1.length : Int) := of_decide_eq_true (by first | (with_reducible assumption) | assumption)
         obtain ⟨ad103, e103, hx103_0, hx103_1⟩ := at_T27 HR0_1.out x4_2 p103 q103
         cases e103
         replace hx103_0 := (HB.out.cell (World.block_lt_of_cell? w _ hx103_0)).trans hx103_0
         replace hx103_1 := (HB.out.cell (World.block_lt_of_cell? w _ hx103_1)).trans hx103_1
         replace p103 := eq_true p103
         replace q103 := eq_true q103
         go_wp2
         go_ret
         exact ⟨by first | rfl | (simp [errW_none, errW_some] <;> rfl) | (simp [*, errW_none, errW_some] <;> rfl), by repeat (first | (with_reducible first | exact HB.out | apply yA_ | apply yN_ | apply yD_ | refine yS_ ?_ GE101.out) | exact HB.out)⟩
        ·rw [if_neg c13] at H
         have c13b0 : decide (100 < (((rd_T27 l0_1 x4_2).f1).size : Int)) = false := decide_eq_false c13
         have c13b1 : decide (100 < ((rd_T27 l0_1 x4_2).f1).size) = false := decide_eq_false (by omega)
         clear c13
         by_cases c15 : (l0_1.length : Int) > 200
         ·rw [if_pos c15] at H
          have c15b0 : decide (200 < (l0_1.length : Int)) = true := decide_eq_true c15
          have c15b1 : decide (200 < l0_1.length) = true := decide_eq_true (by omega)
          clear c15
          obtain rfl := Option.some.inj H
          have hcz16_0 : wr.cell? ⟨gb101, 0, none⟩ = some (.slice A0_0 l0_0.length c0_0) := (xC_ BK101.out 0).trans rfl
          have hcz16_1 : wr.cell? ⟨gb101, 1, none⟩ = some (.slice A0_1 l0_1.length c0_1) := (xC_ BK101.out 1).trans rfl
          have hfz16_0 := xF_ BK101.out 0
          have hfz16_1 := xF_ BK101.out 1
          have p103 : 0 ≤ (x4_2 : Int) := of_decide_eq_true (by first | (with_reducible assumption) | assumption)
          have q103 : x4_2 < (l0_1.length : Int) := of_decide_eq_true (by first | (with_reducible assumption) | assumption)
          obtain ⟨ad103, e103, hx103_0, hx103_1⟩ := at_T27 HR0_1.out x4_2 p103 q103
          cases e103
          replace hx103_0 := (HB.out.cell (World.block_lt_of_cell? w _ hx103_0)).trans hx103_0
          replace hx103_1 := (HB.out.cell (World.block_lt_of_cell? w _ hx103_1)).trans hx103_1
          replace p103 := eq_true p103
          replace q103 := eq_true q103
          go_wp2
          go_ret
          exact ⟨by first | rfl | (simp [errW_none, errW_some] <;> rfl) | (simp [*, errW_none, errW_some] <;> rfl), by repeat (first | (with_reducible first | exact HB.out | apply yA_ | apply yN_ | apply yD_ | refine yS_ ?_ GE101.out) | exact HB.out)⟩
         ·rw [if_neg c15] at H
          have c15b0 : decide (200 < (l0_1.length : Int)) = false := decide_eq_false c15
          have c15b1 : decide (200 < l0_1.length) = false := decide_eq_false (by omega)
          clear c15
          have H' := Aside0.mk H
          clear H
          have hcz17_0 : wr.cell? ⟨gb101, 0, none⟩ = some (.slice A0_0 l0_0.length c0_0) := (xC_ BK101.out 0).trans rfl
          have hcz17_1 : wr.cell? ⟨gb101, 1, none⟩ = some (.slice A0_1 l0_1.length c0_1) := (xC_ BK101.out 1).trans rfl
          have hfz17_0 := xF_ BK101.out 0
          have hfz17_1 := xF_ BK101.out 1
          have p103 : 0 ≤ (x4_2 : Int) := of_decide_eq_true (by first | (with_reducible assumption) | assumption)
          have q103 : x4_2 < (l0_1.length : Int) := of_decide_eq_true (by first | (with_reducible assumption) | assumption)
          obtain ⟨ad103, e103, hx103_0, hx103_1⟩ := at_T27 HR0_1.out x4_2 p103 q103
          cases e103
          replace hx103_0 := (HB.out.cell (World.block_lt_of_cell? w _ hx103_0)).trans hx103_0
          replace hx103_1 := (HB.out.cell (World.block_lt_of_cell? w _ hx103_1)).trans hx103_1
          replace p103 := eq_true p103
          replace q103 := eq_true q103
          go_wp2
          go_roundg k2
          case measure => have := HK1.out; have := HK2.out; omega
          case rel => exact ⟨(wrap64 (x4_2 + 1)), (by first | rfl | (simp; done) | (simp [*]; done)), H', ⟨by have := HK1.out; have := HK2.out; omega⟩, ⟨by (with_reducible repeat (first | apply xN_ | apply xD_ | apply xA_)); exact BK101.out⟩, ⟨by repeat (first | (with_reducible first | exact HB.out | apply yA_ | apply yN_ | apply yD_ | refine yS_ ?_ GE101.out) | exact HB.out)⟩⟩
       ·rw [if_neg c12] at H
        exact absurd H (by simp)
      ·rw [if_neg c11] at H
       have c11b0 : decide (x4_2 < (l0_1.length : Int)) = false := decide_eq_false c11
       clear c11
       obtain rfl := Option.some.inj H
       have hcz18_0 : wr.cell? ⟨gb101, 0, none⟩ = some (.slice A0_0 l0_0.length c0_0) := (xC_ BK101.out 0).trans rfl
       have hcz18_1 : wr.cell? ⟨gb101, 1, none⟩ = some (.slice A0_1 l0_1.length c0_1) := (xC_ BK101.out 1).trans rfl
       have hfz18_0 := xF_ BK101.out 0
       have hfz18_1 := xF_ BK101.out 1
       go_wp2
       go_ret
       exact ⟨by first | rfl | (simp [errW_none, errW_some] <;> rfl) | (simp [*, errW_none, errW_some] <;> rfl), by repeat (first | (with_reducible first | exact HB.out | apply yA_ | apply yN_ | apply yD_ | refine yS_ ?_ GE101.out) | exact HB.out)⟩
def disk_is.f (l0_0 : List ByteArray) (l0_1 : List (S27)) (a1 : Int) : Option (Bool) := if a1 ≥ 0 then (some (decide (a1 < (l0_0.length : Int)))) else (some false)
set_option maxHeartbeats 8000000 in
set_option maxRecDepth 100000 in
theorem disk_is.calls (A0_0 : Option Addr) (c0_0 : Nat) (l0_0 : List ByteArray) (A0_1 : Option Addr) (c0_1 : Nat) (l0_1 : List (S27)) (a1 : Int) (r : Bool) (w : World) (hr0_0 : Kd.C Kd.string w A0_0 l0_0.length l0_0) (hc0_0 : l0_0.length ≤ c0_0) (hr0_1 : Kd.C k27 w A0_1 l0_1.length l0_1) (hc0_1 : l0_1.length ≤ c0_1) (h : disk_is.f l0_0 l0_1 a1 = some r) :
  Calls Try.prog 28 #[.agg #[.slice A0_0 l0_0.length c0_0, .slice A0_1 l0_1.length c0_1], .int .i64 a1] w fun e w' => e = .returned (.bool r) ∧ Below w.heap.size w w' := by
 have hu25 := Try.underlying25
 have HR0_0 := Aside0.mk hr0_0
 have HC0_0 := Aside0.mk hc0_0
 clear hr0_0 hc0_0
 have HR0_1 := Aside0.mk hr0_1
 have HC0_1 := Aside0.mk hc0_1
 clear hr0_1 hc0_1
 have HB := Aside0.mk (Below.refl w.heap.size w)
 have H : (if a1 ≥ 0 then (some (decide (a1 < (l0_0.length : Int)))) else (some false)) = some r := h
 clear h
 by_cases c3 : a1 ≥ 0
 ·rw [if_pos c3] at H
  have c3b0 : decide (0 ≤ a1) = true := decide_eq_true c3
  clear c3
  obtain rfl := Option.some.inj H
  go_enter Try.func28, Try.ntmps28
  go_wp2_with (first | ((with_reducible refine gate_dst (N := 2) rfl ?_); (try (refine gate_guard (by rfl) ?_; dsimp only)); refine box_event ?hg (N := 2) ?hd (cs := #[.slice A0_0 l0_0.length c0_0, .slice A0_1 l0_1.length c0_1]) (t := 25) ?hr ?_; (case hd => rfl); (case hg => rfl); (case hr => first | (go_simp; done) | (go_simp; rfl)); intro gb104 hg w4 hbox hb; have n0_ := Aside0.mk (below_step (by repeat (first | (with_reducible first | exact HB.out | apply yA_ | apply yN_ | apply yD_) | exact HB.out)) hb); have n1_ := Aside0.mk (hbox); have n2_ := Aside0.mk ((by rw [hg]; exact (below_size (by repeat (first | (with_reducible first | exact HB.out | apply yA_ | apply yN_ | apply yD_) | exact HB.out))) : w.heap.size ≤ gb104)); have n3_ := Aside0.mk ((by rw [hg]; exact (below_size (by repeat (first | (with_reducible first | exact HB.out | apply yA_ | apply yN_ | apply yD_) | exact HB.out))) : w.heap.size ≤ gb104)); clear HB; have HB := n0_; have BK104 := n1_; have GW104 := n2_; have GE104 := n3_; clear n0_ n1_ n2_ n3_; clear hb hbox hg; have hcz5_0 : w4.cell? ⟨gb104, 0, none⟩ = some (.slice A0_0 l0_0.length c0_0) := (xC_ BK104.out 0).trans rfl; have hcz5_1 : w4.cell? ⟨gb104, 1, none⟩ = some (.slice A0_1 l0_1.length c0_1) := (xC_ BK104.out 1).trans rfl; have hfz5_0 := xF_ BK104.out 0; have hfz5_1 := xF_ BK104.out 1))
  go_ret
  exact ⟨by first | rfl | (simp [errW_none, errW_some] <;> rfl) | (simp [*, errW_none, errW_some] <;> rfl), by repeat (first | (with_reducible first | exact HB.out | apply yA_ | apply yN_ | apply yD_ | refine yS_ ?_ GE104.out) | exact HB.out)⟩
 ·rw [if_neg c3] at H
  have c3b0 : decide (0 ≤ a1) = false := decide_eq_false c3
  clear c3
  obtain rfl := Option.some.inj H
  go_enter Try.func28, Try.ntmps28
  go_wp2_with (first | ((with_reducible refine gate_dst (N := 2) rfl ?_); (try (refine gate_guard (by rfl) ?_; dsimp only)); refine box_event ?hg (N := 2) ?hd (cs := #[.slice A0_0 l0_0.length c0_0, .slice A0_1 l0_1.length c0_1]) (t := 25) ?hr ?_; (case hd => rfl); (case hg => rfl); (case hr => first | (go_simp; done) | (go_simp; rfl)); intro gb104 hg w6 hbox hb; have n0_ := Aside0.mk (below_step (by repeat (first | (with_reducible first | exact HB.out | apply yA_ | apply yN_ | apply yD_) | exact HB.out)) hb); have n1_ := Aside0.mk (hbox); have n2_ := Aside0.mk ((by rw [hg]; exact (below_size (by repeat (first | (with_reducible first | exact HB.out | apply yA_ | apply yN_ | apply yD_) | exact HB.out))) : w.heap.size ≤ gb104)); have n3_ := Aside0.mk ((by rw [hg]; exact (below_size (by repeat (first | (with_reducible first | exact HB.out | apply yA_ | apply yN_ | apply yD_) | exact HB.out))) : w.heap.size ≤ gb104)); clear HB; have HB := n0_; have BK104 := n1_; have GW104 := n2_; have GE104 := n3_; clear n0_ n1_ n2_ n3_; clear hb hbox hg))
  go_ret
  exact ⟨by first | rfl | (simp [errW_none, errW_some] <;> rfl) | (simp [*, errW_none, errW_some] <;> rfl), by repeat (first | (with_reducible first | exact HB.out | apply yA_ | apply yN_ | apply yD_ | refine yS_ ?_ GE104.out) | exact HB.out)⟩
mutual
def disk_May.j0 : Nat → Bool → List ByteArray → List (S27) → Option (Bool)
 | 0, _, _, _ => none
 | k + 1, x16, x106000, x106001 => if x16 = true then (some false) else (disk_May.l0 k x106000 (x106000.length : Int) 0 x106000 x106001)
def disk_May.l0 : Nat → List ByteArray → Int → Int → List ByteArray → List (S27) → Option (Bool)
 | 0, _, _, _, _, _ => none
 | k + 1, x18, x19, x20, x106000, x106001 => if x20 < x19 then (if 0 ≤ x20 then (if x20 < (x18.length : Int) then (if ((rdOf ByteArray.empty x18 x20).size : Int) = 32 then (disk_May.l0 k x18 x19 (wrap64 (x20 + 1)) x106000 x106001) else (some false)) else (none)) else (none)) else (disk_May.l1 k x106001 (x106001.length : Int) 0 x106000 x106001)
def disk_May.l1 : Nat → List (S27) → Int → Int → List ByteArray → List (S27) → Option (Bool)
 | 0, _, _, _, _, _ => none
 | k + 1, x29, x30, x31, x106000, x106001 => if x31 < x30 then (if 0 ≤ x31 then (if x31 < (x29.length : Int) then ((disk_is.f x106000 x106001 ((rd_T27 x29 x31).f0)).bind fun t109 => (if t109 = true then (if (((rd_T27 x29 x31).f1).size : Int) = 32 then (disk_May.l1 k x29 x30 (wrap64 (x31 + 1)) x106000 x106001) else (some false)) else (some false))) else (none)) else (none)) else (some true)
end
def disk_May.f (k : Nat) (l0_0 : List ByteArray) (l0_1 : List (S27)) : Option (Bool) := if (l0_0.length : Int) < 1 then (disk_May.j0 k true l0_0 l0_1) else (disk_May.j0 k (decide ((l0_0.length : Int) > 512)) l0_0 l0_1)
theorem disk_May.mono_l : ∀ k, (∀ y0 y1 y2, LeO (disk_May.j0 k y0 y1 y2) (disk_May.j0 (k + 1) y0 y1 y2)) ∧ (∀ y0 y1 y2 y3 y4, LeO (disk_May.l0 k y0 y1 y2 y3 y4) (disk_May.l0 (k + 1) y0 y1 y2 y3 y4)) ∧ (∀ y0 y1 y2 y3 y4, LeO (disk_May.l1 k y0 y1 y2 y3 y4) (disk_May.l1 (k + 1) y0 y1 y2 y3 y4))
 | 0 => ⟨fun _ _ _ r h => by simp [disk_May.j0] at h, fun _ _ _ _ _ r h => by simp [disk_May.l0] at h, fun _ _ _ _ _ r h => by simp [disk_May.l1] at h⟩
 | k + 1 => by
  obtain ⟨ih0, ih1, ih2⟩ := disk_May.mono_l k
  refine ⟨?_, ?_, ?_⟩
  ·intro y0 y1 y2
   unfold disk_May.j0
   repeat' first
   | (with_reducible exact ih0 _ _ _)
   | (with_reducible exact ih1 _ _ _ _ _)
   | (with_reducible exact ih2 _ _ _ _ _)
   | (with_reducible exact LeO.refl _)
   | (with_reducible exact LeO.none _)
   | (with_reducible refine LeO.ite ?_ ?_)
   | (with_reducible refine LeO.bind ?_ (fun _ => ?_))
   | exact ih0 _ _ _
   | exact ih1 _ _ _ _ _
   | exact ih2 _ _ _ _ _
   | exact LeO.none _
   | refine LeO.ite ?_ ?_
   | refine LeO.bind ?_ (fun _ => ?_)
  ·intro y0 y1 y2 y3 y4
   unfold disk_May.l0
   repeat' first
   | (with_reducible exact ih0 _ _ _)
   | (with_reducible exact ih1 _ _ _ _ _)
   | (with_reducible exact ih2 _ _ _ _ _)
   | (with_reducible exact LeO.refl _)
   | (with_reducible exact LeO.none _)
   | (with_reducible refine LeO.ite ?_ ?_)
   | (with_reducible refine LeO.bind ?_ (fun _ => ?_))
   | exact ih0 _ _ _
   | exact ih1 _ _ _ _ _
   | exact ih2 _ _ _ _ _
   | exact LeO.none _
   | refine LeO.ite ?_ ?_
   | refine LeO.bind ?_ (fun _ => ?_)
  ·intro y0 y1 y2 y3 y4
   unfold disk_May.l1
   repeat' first
   | (with_reducible exact ih0 _ _ _)
   | (with_reducible exact ih1 _ _ _ _ _)
   | (with_reducible exact ih2 _ _ _ _ _)
   | (with_reducible exact LeO.refl _)
   | (with_reducible exact LeO.none _)
   | (with_reducible refine LeO.ite ?_ ?_)
   | (with_reducible refine LeO.bind ?_ (fun _ => ?_))
   | exact ih0 _ _ _
   | exact ih1 _ _ _ _ _
   | exact ih2 _ _ _ _ _
   | exact LeO.none _
   | refine LeO.ite ?_ ?_
   | refine LeO.bind ?_ (fun _ => ?_)
theorem disk_May.mono : ∀ a0 a1 k, LeO (disk_May.f k a0 a1) (disk_May.f (k + 1) a0 a1) := by
 intro a0 a1 k
 obtain ⟨ih0, ih1, ih2⟩ := disk_May.mono_l k
 unfold disk_May.f
 repeat' first
   | (with_reducible exact ih0 _ _ _)
   | (with_reducible exact ih1 _ _ _ _ _)
   | (with_reducible exact ih2 _ _ _ _ _)
   | (with_reducible exact LeO.refl _)
   | (with_reducible exact LeO.none _)
   | (with_reducible refine LeO.ite ?_ ?_)
   | (with_reducible refine LeO.bind ?_ (fun _ => ?_))
   | exact ih0 _ _ _
   | exact ih1 _ _ _ _ _
   | exact ih2 _ _ _ _ _
   | exact LeO.none _
   | refine LeO.ite ?_ ?_
   | refine LeO.bind ?_ (fun _ => ?_)
set_option maxHeartbeats 8000000 in
set_option maxRecDepth 100000 in
theorem disk_May.calls (k : Nat) (A0_0 : Option Addr) (c0_0 : Nat) (l0_0 : List ByteArray) (A0_1 : Option Addr) (c0_1 : Nat) (l0_1 : List (S27)) (r : Bool) (w : World) (hr0_0 : Kd.C Kd.string w A0_0 l0_0.length l0_0) (hc0_0 : l0_0.length ≤ c0_0) (hr0_1 : Kd.C k27 w A0_1 l0_1.length l0_1) (hc0_1 : l0_1.length ≤ c0_1) (h : disk_May.f k l0_0 l0_1 = some r) :
  Calls Try.prog 16 #[.agg #[.slice A0_0 l0_0.length c0_0, .slice A0_1 l0_1.length c0_1]] w fun e w' => e = .returned (.bool r) ∧ Below w.heap.size w w' := by
 have hu25 := Try.underlying25
 have hu27 := Try.underlying27
 have HR0_0 := Aside0.mk hr0_0
 have HC0_0 := Aside0.mk hc0_0
 clear hr0_0 hc0_0
 have HR0_1 := Aside0.mk hr0_1
 have HC0_1 := Aside0.mk hc0_1
 clear hr0_1 hc0_1
 have HB := Aside0.mk (Below.refl w.heap.size w)
 have H : (if (l0_0.length : Int) < 1 then (disk_May.j0 k true l0_0 l0_1) else (disk_May.j0 k (decide ((l0_0.length : Int) > 512)) l0_0 l0_1)) = some r := h
 clear h
 have HC2 := Aside0.mk H
 clear H
 go_enter Try.func16, Try.ntmps16
 go_upto_region 1 with (first | ((with_reducible refine gate_dst (N := 1) rfl ?_); (try (refine gate_guard (by rfl) ?_; dsimp only)); refine box_event ?hg (N := 1) ?hd (cs := #[.slice A0_0 l0_0.length c0_0, .slice A0_1 l0_1.length c0_1]) (t := 25) ?hr ?_; (case hd => rfl); (case hg => rfl); (case hr => first | (go_simp; done) | (go_simp; rfl)); intro gb105 hg w3 hbox hb; have n0_ := Aside0.mk (below_step (by repeat (first | (with_reducible first | exact HB.out | apply yA_ | apply yN_ | apply yD_) | exact HB.out)) hb); have n1_ := Aside0.mk (hbox); have n2_ := Aside0.mk ((by rw [hg]; exact (below_size (by repeat (first | (with_reducible first | exact HB.out | apply yA_ | apply yN_ | apply yD_) | exact HB.out))) : w.heap.size ≤ gb105)); have n3_ := Aside0.mk ((by rw [hg]; exact (below_size (by repeat (first | (with_reducible first | exact HB.out | apply yA_ | apply yN_ | apply yD_) | exact HB.out))) : w.heap.size ≤ gb105)); clear HB; have HB := n0_; have BK105 := n1_; have GW105 := n2_; have GE105 := n3_; clear n0_ n1_ n2_ n3_; clear hb hbox hg))
 (try simp only [Act.put, List.setIfInBounds_toArray, List.set_cons_zero, List.set_cons_succ])
 go_cut [16] (fun v16 wc => ∃ (kq : Nat) (x16_1 : Bool), v16 = .bool x16_1 ∧ Aside0 (disk_May.j0 kq x16_1 l0_0 l0_1 = some r) ∧ Aside0 (kq ≤ k) ∧ Aside0 (wc.heap[gb105]? = some (.cells #[(.slice A0_0 l0_0.length c0_0), (.slice A0_1 l0_1.length c0_1)] 25 (0, 0))) ∧ Aside0 (Below w.heap.size w wc))
 case first =>
  have H := HC2.out
  clear HC2
  by_cases c4 : (l0_0.length : Int) < 1
  ·rw [if_pos c4] at H
   have c4b0 : decide ((l0_0.length : Int) < 1) = true := decide_eq_true c4
   have c4b1 : decide (l0_0.length < 1) = true := decide_eq_true (by omega)
   clear c4
   (first | rw [c4b0] | (simp only [i64_w, i32_w]; rw [c4b0]) | skip)
   have H' := Aside0.mk H
   clear H
   have hcz5_0 : w3.cell? ⟨gb105, 0, none⟩ = some (.slice A0_0 l0_0.length c0_0) := (xC_ BK105.out 0).trans rfl
   have hcz5_1 : w3.cell? ⟨gb105, 1, none⟩ = some (.slice A0_1 l0_1.length c0_1) := (xC_ BK105.out 1).trans rfl
   have hfz5_0 := xF_ BK105.out 0
   have hfz5_1 := xF_ BK105.out 1
   go_wp2
   go_meet
   case rel => exact ⟨_, (true), (by first | rfl | (simp; done) | (simp [*]; done)), H', ⟨by first | omega | exact Nat.le_refl _⟩, ⟨by (with_reducible repeat (first | apply xN_ | apply xD_ | apply xA_)); exact BK105.out⟩, ⟨by repeat (first | (with_reducible first | exact HB.out | apply yA_ | apply yN_ | apply yD_ | refine yS_ ?_ GE105.out) | exact HB.out)⟩⟩
  ·rw [if_neg c4] at H
   have c4b0 : decide ((l0_0.length : Int) < 1) = false := decide_eq_false c4
   have c4b1 : decide (l0_0.length < 1) = false := decide_eq_false (by omega)
   clear c4
   (first | rw [c4b0] | (simp only [i64_w, i32_w]; rw [c4b0]) | skip)
   have H' := Aside0.mk H
   clear H
   have hcz6_0 : w3.cell? ⟨gb105, 0, none⟩ = some (.slice A0_0 l0_0.length c0_0) := (xC_ BK105.out 0).trans rfl
   have hcz6_1 : w3.cell? ⟨gb105, 1, none⟩ = some (.slice A0_1 l0_1.length c0_1) := (xC_ BK105.out 1).trans rfl
   have hfz6_0 := xF_ BK105.out 0
   have hfz6_1 := xF_ BK105.out 1
   go_wp2
   go_meet
   case rel => exact ⟨_, (decide ((l0_0.length : Int) > 512)), (by first | rfl | (simp; done) | (simp [*]; done)), H', ⟨by first | omega | exact Nat.le_refl _⟩, ⟨by (with_reducible repeat (first | apply xN_ | apply xD_ | apply xA_)); exact BK105.out⟩, ⟨by repeat (first | (with_reducible first | exact HB.out | apply yA_ | apply yN_ | apply yD_ | refine yS_ ?_ GE105.out) | exact HB.out)⟩⟩
 case rest =>
  clear HC2
  (try clear c1); (try clear p2); (try clear c4); (try clear c4b0); (try clear c4b1); (try clear hcz5_0); (try clear hcz5_1); (try clear hcz6_0); (try clear hcz6_1)
  (try clear hfz5_0); (try clear hfz5_1); (try clear hfz6_0); (try clear hfz6_1)
  obtain ⟨kq, x16_1, rfl, HA, HJ1, BK105, HB⟩ := hcut
  cases kq with
  | zero => exact absurd HA.out (by simp [disk_May.j0])
  | succ kj1 =>
   have H := HA.out
   clear HA
   simp only [disk_May.j0] at H
   by_cases c7 : x16_1 = true
   ·subst c7
    have H1 : (some false) = some r := by rw [if_pos rfl] at H; exact H
    clear H
    have H := H1
    clear H1
    obtain rfl := Option.some.inj H
    go_wp2
    go_ret
    exact ⟨by first | rfl | (simp [errW_none, errW_some] <;> rfl) | (simp [*, errW_none, errW_some] <;> rfl), by repeat (first | (with_reducible first | exact HB.out | apply yA_ | apply yN_ | apply yD_ | refine yS_ ?_ GE105.out) | exact HB.out)⟩
   ·replace c7 := Bool.eq_false_iff.mpr c7
    subst c7
    have H1 : (disk_May.l0 kj1 l0_0 (l0_0.length : Int) 0 l0_0 l0_1) = some r := by rw [if_neg (show ¬ (false = true) by decide)] at H; exact H
    clear H
    have H := H1
    clear H1
    have H' := Aside0.mk H
    clear H
    have hcz8_0 : wc.cell? ⟨gb105, 0, none⟩ = some (.slice A0_0 l0_0.length c0_0) := (xC_ BK105.out 0).trans rfl
    have hcz8_1 : wc.cell? ⟨gb105, 1, none⟩ = some (.slice A0_1 l0_1.length c0_1) := (xC_ BK105.out 1).trans rfl
    have hfz8_0 := xF_ BK105.out 0
    have hfz8_1 := xF_ BK105.out 1
    go_wp2
    go_loopg [20] kj1 (fun kq v20 w' => ∃ (x20_2 : Int), v20 = .int .i64 x20_2 ∧ Aside0 (disk_May.l0 kq l0_0 (l0_0.length : Int) x20_2 l0_0 l0_1 = some r) ∧ Aside0 (kq ≤ kj1) ∧ Aside0 (w'.heap[gb105]? = some (.cells #[(.slice A0_0 l0_0.length c0_0), (.slice A0_1 l0_1.length c0_1)] 25 (0, 0))) ∧ Aside0 (Below w.heap.size w w'))
    case atStart => exact ⟨(0), (by first | rfl | (simp; done) | (simp [*]; done)), H', ⟨Nat.le_refl _⟩, ⟨by (with_reducible repeat (first | apply xN_ | apply xD_ | apply xA_)); exact BK105.out⟩, ⟨by repeat (first | (with_reducible first | exact HB.out | apply yA_ | apply yN_ | apply yD_ | refine yS_ ?_ GE105.out) | exact HB.out)⟩⟩
    case round =>
     clear H'
     (try clear c1); (try clear p2); (try clear c4); (try clear c4b0); (try clear c4b1); (try clear c7); (try clear hcz5_0); (try clear hcz5_1); (try clear hcz6_0)
     (try clear hcz6_1); (try clear hcz8_0); (try clear hcz8_1); (try clear hfz5_0); (try clear hfz5_1); (try clear hfz6_0); (try clear hfz6_1); (try clear hfz8_0)
     (try clear hfz8_1); (try clear p2)
     obtain ⟨x20_2, rfl, HA, HK2, BK105, HB⟩ := hrel
     cases gk with
     | zero => exact absurd HA.out (by simp [disk_May.l0])
     | succ k2 =>
      have H := HA.out
      clear HA
      simp only [disk_May.l0] at H
      by_cases c9 : x20_2 < (l0_0.length : Int)
      ·rw [if_pos c9] at H
       have c9b0 : decide (x20_2 < (l0_0.length : Int)) = true := decide_eq_true c9
       clear c9
       by_cases c10 : 0 ≤ x20_2
       ·rw [if_pos c10] at H
        have c10b0 : decide (0 ≤ x20_2) = true := decide_eq_true c10
        clear c10
        by_cases c11 : x20_2 < (l0_0.length : Int)
        ·rw [if_pos c11] at H
         have c11b0 : decide (x20_2 < (l0_0.length : Int)) = true := decide_eq_true c11
         clear c11
         by_cases c12 : ((rdOf ByteArray.empty l0_0 x20_2).size : Int) = 32
         ·rw [if_pos c12] at H
          have c12b0 : (((rdOf ByteArray.empty l0_0 x20_2).size : Int) == 32) = true := beq_iff_eq.mpr c12
          have c12b1 : (((rdOf ByteArray.empty l0_0 x20_2).size : Int) != 32) = false := bne_eq_false_iff_eq.mpr c12
          clear c12
          have H' := Aside0.mk H
          clear H
          have p106 : 0 ≤ (x20_2 : Int) := of_decide_eq_true (by first | (with_reducible assumption) | assumption)
          have q106 : x20_2 < (l0_0.length : Int) := of_decide_eq_true (by first | (with_reducible assumption) | assumption)
          obtain ⟨ad106, e106, hx106_0⟩ := Kd.at_string HR0_0.out x20_2 p106 q106
          cases e106
          replace hx106_0 := (HB.out.cell (World.block_lt_of_cell? w _ hx106_0)).trans hx106_0
          replace p106 := eq_true p106
          replace q106 := eq_true q106
          go_wp2
          go_roundg k2
          case measure => have := HJ1.out; have := HK2.out; omega
          case rel => exact ⟨(wrap64 (x20_2 + 1)), (by first | rfl | (simp; done) | (simp [*]; done)), H', ⟨by have := HJ1.out; have := HK2.out; omega⟩, ⟨by (with_reducible repeat (first | apply xN_ | apply xD_ | apply xA_)); exact BK105.out⟩, ⟨by repeat (first | (with_reducible first | exact HB.out | apply yA_ | apply yN_ | apply yD_ | refine yS_ ?_ GE105.out) | exact HB.out)⟩⟩
         ·rw [if_neg c12] at H
          have c12b0 : (((rdOf ByteArray.empty l0_0 x20_2).size : Int) == 32) = false := beq_eq_false_iff_ne.mpr c12
          have c12b1 : (((rdOf ByteArray.empty l0_0 x20_2).size : Int) != 32) = true := bne_iff_ne.mpr c12
          obtain rfl := Option.some.inj H
          have p106 : 0 ≤ (x20_2 : Int) := of_decide_eq_true (by first | (with_reducible assumption) | assumption)
          have q106 : x20_2 < (l0_0.length : Int) := of_decide_eq_true (by first | (with_reducible assumption) | assumption)
          obtain ⟨ad106, e106, hx106_0⟩ := Kd.at_string HR0_0.out x20_2 p106 q106
          cases e106
          replace hx106_0 := (HB.out.cell (World.block_lt_of_cell? w _ hx106_0)).trans hx106_0
          replace p106 := eq_true p106
          replace q106 := eq_true q106
          go_wp2
          go_ret
          exact ⟨by first | rfl | (simp [errW_none, errW_some] <;> rfl) | (simp [*, errW_none, errW_some] <;> rfl), by repeat (first | (with_reducible first | exact HB.out | apply yA_ | apply yN_ | apply yD_ | refine yS_ ?_ GE105.out) | exact HB.out)⟩
        ·rw [if_neg c11] at H
         exact absurd H (by simp)
       ·rw [if_neg c10] at H
        exact absurd H (by simp)
      ·rw [if_neg c9] at H
       have c9b0 : decide (x20_2 < (l0_0.length : Int)) = false := decide_eq_false c9
       clear c9
       have H' := Aside0.mk H
       clear H
       have hcz13_0 : wr.cell? ⟨gb105, 0, none⟩ = some (.slice A0_0 l0_0.length c0_0) := (xC_ BK105.out 0).trans rfl
       have hcz13_1 : wr.cell? ⟨gb105, 1, none⟩ = some (.slice A0_1 l0_1.length c0_1) := (xC_ BK105.out 1).trans rfl
       have hfz13_0 := xF_ BK105.out 0
       have hfz13_1 := xF_ BK105.out 1
       go_wp2
       go_loopg [31] k2 (fun kq v31 w' => ∃ (x31_3 : Int), v31 = .int .i64 x31_3 ∧ Aside0 (disk_May.l1 kq l0_1 (l0_1.length : Int) x31_3 l0_0 l0_1 = some r) ∧ Aside0 (kq ≤ k2) ∧ Aside0 (w'.heap[gb105]? = some (.cells #[(.slice A0_0 l0_0.length c0_0), (.slice A0_1 l0_1.length c0_1)] 25 (0, 0))) ∧ Aside0 (Below w.heap.size w w'))
       case atStart => exact ⟨(0), (by first | rfl | (simp; done) | (simp [*]; done)), H', ⟨Nat.le_refl _⟩, ⟨by (with_reducible repeat (first | apply xN_ | apply xD_ | apply xA_)); exact BK105.out⟩, ⟨by repeat (first | (with_reducible first | exact HB.out | apply yA_ | apply yN_ | apply yD_ | refine yS_ ?_ GE105.out) | exact HB.out)⟩⟩
       case round =>
        clear H'
        (try clear c1); (try clear p1); (try clear q1); (try clear hx1); (try clear p2); (try clear c4); (try clear c4b0); (try clear c4b1); (try clear p6); (try clear c7)
        (try clear c9); (try clear c9b0); (try clear c10); (try clear c10b0); (try clear p10); (try clear q10); (try clear hx10); (try clear c11); (try clear c11b0)
        (try clear c12); (try clear c12b0); (try clear c12b1); (try clear hcz13_0); (try clear hcz13_1); (try clear hcz5_0); (try clear hcz5_1); (try clear hcz6_0)
        (try clear hcz6_1); (try clear hcz8_0); (try clear hcz8_1); (try clear hfz13_0); (try clear hfz13_1); (try clear hfz5_0); (try clear hfz5_1); (try clear hfz6_0)
        (try clear hfz6_1); (try clear hfz8_0); (try clear hfz8_1); (try clear hx106_0); (try clear p106); (try clear p2); (try clear q106)
        obtain ⟨x31_3, rfl, HA, HK3, BK105, HB⟩ := hrel
        cases gk with
        | zero => exact absurd HA.out (by simp [disk_May.l1])
        | succ k3 =>
         have H := HA.out
         clear HA
         simp only [disk_May.l1] at H
         by_cases c14 : x31_3 < (l0_1.length : Int)
         ·rw [if_pos c14] at H
          have c14b0 : decide (x31_3 < (l0_1.length : Int)) = true := decide_eq_true c14
          clear c14
          by_cases c15 : 0 ≤ x31_3
          ·rw [if_pos c15] at H
           have c15b0 : decide (0 ≤ x31_3) = true := decide_eq_true c15
           clear c15
           by_cases c16 : x31_3 < (l0_1.length : Int)
           ·rw [if_pos c16] at H
            have c16b0 : decide (x31_3 < (l0_1.length : Int)) = true := decide_eq_true c16
            clear c16
            replace H := Option.bind_eq_some_iff.mp H
            obtain ⟨t109, A170, H⟩ := H
            replace H : (if t109 = true then (if (((rd_T27 l0_1 x31_3).f1).size : Int) = 32 then (disk_May.l1 k3 l0_1 (l0_1.length : Int) (wrap64 (x31_3 + 1)) l0_0 l0_1) else (some false)) else (some false)) = some r := H
            have A17 := Aside0.mk A170
            clear A170
            by_cases c18 : t109 = true
            ·subst c18
             have H1 : (if (((rd_T27 l0_1 x31_3).f1).size : Int) = 32 then (disk_May.l1 k3 l0_1 (l0_1.length : Int) (wrap64 (x31_3 + 1)) l0_0 l0_1) else (some false)) = some r := by rw [if_pos rfl] at H; exact H
             clear H
             have H := H1
             clear H1
             by_cases c19 : (((rd_T27 l0_1 x31_3).f1).size : Int) = 32
             ·rw [if_pos c19] at H
              have c19b0 : ((((rd_T27 l0_1 x31_3).f1).size : Int) == 32) = true := beq_iff_eq.mpr c19
              have c19b1 : ((((rd_T27 l0_1 x31_3).f1).size : Int) != 32) = false := bne_eq_false_iff_eq.mpr c19
              clear c19
              have H' := Aside0.mk H
              clear H
              have p107 : 0 ≤ (x31_3 : Int) := of_decide_eq_true (by first | (with_reducible assumption) | assumption)
              have q107 : x31_3 < (l0_1.length : Int) := of_decide_eq_true (by first | (with_reducible assumption) | assumption)
              obtain ⟨ad107, e107, hx107_0, hx107_1⟩ := at_T27 HR0_1.out x31_3 p107 q107
              cases e107
              replace hx107_0 := (HB.out.cell (World.block_lt_of_cell? w _ hx107_0)).trans hx107_0
              replace hx107_1 := (HB.out.cell (World.block_lt_of_cell? w _ hx107_1)).trans hx107_1
              replace p107 := eq_true p107
              replace q107 := eq_true q107
              go_wp2_with (first | ((with_reducible refine gate_dst (N := 6) rfl ?_); (try (refine gate_guard (by rfl) ?_; dsimp only)); refine box_event ?hg (N := 6) ?hd (cs := #[.int .i64 0, .string (⟨#[]⟩ : ByteArray)]) (t := 27) ?hr ?_; (case hd => rfl); (case hg => rfl); (case hr => first | (go_simp; done) | (go_simp; rfl)); intro gb108 hg w20 hbox hb; have n0_ := Aside0.mk (blk_below (g := gb105) (o := .cells #[.slice A0_0 l0_0.length c0_0, .slice (some ad107) l0_1.length c0_1] 25 (0, 0)) (by (with_reducible repeat (first | apply xN_ | apply xD_ | apply xA_)); exact BK105.out) hb); have n1_ := Aside0.mk (below_step (by repeat (first | (with_reducible first | exact HB.out | apply yA_ | apply yN_ | apply yD_ | refine yS_ ?_ GE105.out) | exact HB.out)) hb); have n2_ := Aside0.mk (hbox); have n3_ := Aside0.mk ((by rw [hg]; exact (below_size (by repeat (first | (with_reducible first | exact HB.out | apply yA_ | apply yN_ | apply yD_ | refine yS_ ?_ GE105.out) | exact HB.out))) : w.heap.size ≤ gb108)); have n4_ := Aside0.mk ((by rw [hg]; exact (below_size (by repeat (first | (with_reducible first | exact HB.out | apply yA_ | apply yN_ | apply yD_ | refine yS_ ?_ GE105.out) | exact HB.out))) : w.heap.size ≤ gb108)); have n5_ := Aside0.mk ((by rw [hg]; exact Nat.ne_of_lt (blk_lt (g := gb105) (o := .cells #[.slice A0_0 l0_0.length c0_0, .slice (some ad107) l0_1.length c0_1] 25 (0, 0)) (by (with_reducible repeat (first | apply xN_ | apply xD_ | apply xA_)); exact BK105.out)) : gb105 ≠ gb108)); have n6_ := Aside0.mk ((by rw [hg]; exact Nat.ne_of_gt (blk_lt (g := gb105) (o := .cells #[.slice A0_0 l0_0.length c0_0, .slice (some ad107) l0_1.length c0_1] 25 (0, 0)) (by (with_reducible repeat (first | apply xN_ | apply xD_ | apply xA_)); exact BK105.out)) : gb108 ≠ gb105)); clear BK105; clear HB; have BK105 := n0_; have HB := n1_; have BK108 := n2_; have GW108 := n3_; have GE108 := n4_; have NB105_108 := n5_; have NB108_105 := n6_; clear n0_ n1_ n2_ n3_ n4_ n5_ n6_; clear hb hbox hg; have hnb21 := NB108_105.out; have hnc21 := NB105_108.out; have hcz22_0 : w20.cell? ⟨gb108, 0, none⟩ = some (.int .i64 0) := (xC_ BK108.out 0).trans rfl; have hcz22_1 : w20.cell? ⟨gb108, 1, none⟩ = some (.string (⟨#[]⟩ : ByteArray)) := (xC_ BK108.out 1).trans rfl; have hfz22_0 := xF_ BK108.out 0; have hfz22_1 := xF_ BK108.out 1; have hcz23_0 : w20.cell? ⟨gb105, 0, none⟩ = some (.slice A0_0 l0_0.length c0_0) := (xC_ BK105.out 0).trans rfl; have hcz23_1 : w20.cell? ⟨gb105, 1, none⟩ = some (.slice (some ad107) l0_1.length c0_1) := (xC_ BK105.out 1).trans rfl; have hfz23_0 := xF_ BK105.out 0; have hfz23_1 := xF_ BK105.out 1) | ((with_reducible refine gate_callee (f := 28) rfl ?_); refine goesL_ (some 38) rfl rfl Try.func28 (by kernel_rfl) rfl #[.agg #[.slice A0_0 l0_0.length c0_0, .slice (some ad107) l0_1.length c0_1], .int .i64 ((rd_T27 l0_1 x31_3).f0)] rfl (by (try simp only [List.map_toArray, List.map_cons, List.map_nil]); first | done | rfl) ?_; (with_reducible refine (disk_is.calls _ _ l0_0 _ _ l0_1 ((rd_T27 l0_1 x31_3).f0) true _ ?side1 ?side2 ?side3 ?side4 A17.out).mono ?_); (case side1 => exact Kd.C_below HR0_0.out (by repeat (first | (with_reducible first | exact HB.out | apply yA_ | apply yN_ | apply yD_ | refine yS_ ?_ GE105.out | refine yS_ ?_ GE108.out) | exact HB.out))); (case side2 => exact HC0_0.out); (case side3 => exact Kd.C_below HR0_1.out (by repeat (first | (with_reducible first | exact HB.out | apply yA_ | apply yN_ | apply yD_ | refine yS_ ?_ GE105.out | refine yS_ ?_ GE108.out) | exact HB.out))); (case side4 => exact HC0_1.out); rintro e w24 ⟨rfl, hb⟩; refine ⟨_, rfl, ?_⟩; have n0_ := Aside0.mk (blk_below (g := gb105) (o := .cells #[.slice A0_0 l0_0.length c0_0, .slice (some ad107) l0_1.length c0_1] 25 (0, 0)) (by (with_reducible repeat (first | apply xN_ | apply xD_ | apply xA_)); refine xR_ ?_ NB105_108.out _; refine xR_ ?_ NB105_108.out _; (with_reducible repeat (first | apply xN_ | apply xD_ | apply xA_)); exact BK105.out) hb); have n1_ := Aside0.mk (blk_below (g := gb108) (o := .cells #[.int .i64 ((rd_T27 l0_1 x31_3).f0), .string ((rd_T27 l0_1 x31_3).f1)] 27 (0, 0)) (by (with_reducible repeat (first | apply xN_ | apply xD_ | apply xA_)); refine blk_put (cs := #[.int .i64 ((rd_T27 l0_1 x31_3).f0), .string (⟨#[]⟩ : ByteArray)]) ?_ 1 _ rfl; refine blk_put (cs := #[.int .i64 0, .string (⟨#[]⟩ : ByteArray)]) ?_ 0 _ rfl; (with_reducible repeat (first | apply xN_ | apply xD_ | apply xA_)); exact BK108.out) hb); have n2_ := Aside0.mk (below_step (by repeat (first | (with_reducible first | exact HB.out | apply yA_ | apply yN_ | apply yD_ | refine yS_ ?_ GE105.out | refine yS_ ?_ GE108.out) | exact HB.out)) hb); clear BK105; clear BK108; clear HB; have BK105 := n0_; have BK108 := n1_; have HB := n2_; clear n0_ n1_ n2_; (try clear hb); (try clear hb2); (try clear hk); (try clear hi); have hcz25_0 : w24.cell? ⟨gb108, 0, none⟩ = some (.int .i64 ((rd_T27 l0_1 x31_3).f0)) := (xC_ BK108.out 0).trans rfl; have hcz25_1 : w24.cell? ⟨gb108, 1, none⟩ = some (.string ((rd_T27 l0_1 x31_3).f1)) := (xC_ BK108.out 1).trans rfl; have hfz25_0 := xF_ BK108.out 0; have hfz25_1 := xF_ BK108.out 1))
              go_roundg k3
              case measure => have := HJ1.out; have := HK2.out; have := HK3.out; omega
              case rel => exact ⟨(wrap64 (x31_3 + 1)), (by first | rfl | (simp; done) | (simp [*]; done)), H', ⟨by have := HJ1.out; have := HK2.out; have := HK3.out; omega⟩, ⟨by (with_reducible repeat (first | apply xN_ | apply xD_ | apply xA_)); exact BK105.out⟩, ⟨by repeat (first | (with_reducible first | exact HB.out | apply yA_ | apply yN_ | apply yD_ | refine yS_ ?_ GE105.out | refine yS_ ?_ GE108.out) | exact HB.out)⟩⟩
             ·rw [if_neg c19] at H
              have c19b0 : ((((rd_T27 l0_1 x31_3).f1).size : Int) == 32) = false := beq_eq_false_iff_ne.mpr c19
              have c19b1 : ((((rd_T27 l0_1 x31_3).f1).size : Int) != 32) = true := bne_iff_ne.mpr c19
              obtain rfl := Option.some.inj H
              have p107 : 0 ≤ (x31_3 : Int) := of_decide_eq_true (by first | (with_reducible assumption) | assumption)
              have q107 : x31_3 < (l0_1.length : Int) := of_decide_eq_true (by first | (with_reducible assumption) | assumption)
              obtain ⟨ad107, e107, hx107_0, hx107_1⟩ := at_T27 HR0_1.out x31_3 p107 q107
              cases e107
              replace hx107_0 := (HB.out.cell (World.block_lt_of_cell? w _ hx107_0)).trans hx107_0
              replace hx107_1 := (HB.out.cell (World.block_lt_of_cell? w _ hx107_1)).trans hx107_1
              replace p107 := eq_true p107
              replace q107 := eq_true q107
              go_wp2_with (first | ((with_reducible refine gate_dst (N := 6) rfl ?_); (try (refine gate_guard (by rfl) ?_; dsimp only)); refine box_event ?hg (N := 6) ?hd (cs := #[.int .i64 0, .string (⟨#[]⟩ : ByteArray)]) (t := 27) ?hr ?_; (case hd => rfl); (case hg => rfl); (case hr => first | (go_simp; done) | (go_simp; rfl)); intro gb108 hg w26 hbox hb; have n0_ := Aside0.mk (blk_below (g := gb105) (o := .cells #[.slice A0_0 l0_0.length c0_0, .slice (some ad107) l0_1.length c0_1] 25 (0, 0)) (by (with_reducible repeat (first | apply xN_ | apply xD_ | apply xA_)); exact BK105.out) hb); have n1_ := Aside0.mk (below_step (by repeat (first | (with_reducible first | exact HB.out | apply yA_ | apply yN_ | apply yD_ | refine yS_ ?_ GE105.out) | exact HB.out)) hb); have n2_ := Aside0.mk (hbox); have n3_ := Aside0.mk ((by rw [hg]; exact (below_size (by repeat (first | (with_reducible first | exact HB.out | apply yA_ | apply yN_ | apply yD_ | refine yS_ ?_ GE105.out) | exact HB.out))) : w.heap.size ≤ gb108)); have n4_ := Aside0.mk ((by rw [hg]; exact (below_size (by repeat (first | (with_reducible first | exact HB.out | apply yA_ | apply yN_ | apply yD_ | refine yS_ ?_ GE105.out) | exact HB.out))) : w.heap.size ≤ gb108)); have n5_ := Aside0.mk ((by rw [hg]; exact Nat.ne_of_lt (blk_lt (g := gb105) (o := .cells #[.slice A0_0 l0_0.length c0_0, .slice (some ad107) l0_1.length c0_1] 25 (0, 0)) (by (with_reducible repeat (first | apply xN_ | apply xD_ | apply xA_)); exact BK105.out)) : gb105 ≠ gb108)); have n6_ := Aside0.mk ((by rw [hg]; exact Nat.ne_of_gt (blk_lt (g := gb105) (o := .cells #[.slice A0_0 l0_0.length c0_0, .slice (some ad107) l0_1.length c0_1] 25 (0, 0)) (by (with_reducible repeat (first | apply xN_ | apply xD_ | apply xA_)); exact BK105.out)) : gb108 ≠ gb105)); clear BK105; clear HB; have BK105 := n0_; have HB := n1_; have BK108 := n2_; have GW108 := n3_; have GE108 := n4_; have NB105_108 := n5_; have NB108_105 := n6_; clear n0_ n1_ n2_ n3_ n4_ n5_ n6_; clear hb hbox hg; have hnb27 := NB108_105.out; have hnc27 := NB105_108.out; have hcz28_0 : w26.cell? ⟨gb108, 0, none⟩ = some (.int .i64 0) := (xC_ BK108.out 0).trans rfl; have hcz28_1 : w26.cell? ⟨gb108, 1, none⟩ = some (.string (⟨#[]⟩ : ByteArray)) := (xC_ BK108.out 1).trans rfl; have hfz28_0 := xF_ BK108.out 0; have hfz28_1 := xF_ BK108.out 1; have hcz29_0 : w26.cell? ⟨gb105, 0, none⟩ = some (.slice A0_0 l0_0.length c0_0) := (xC_ BK105.out 0).trans rfl; have hcz29_1 : w26.cell? ⟨gb105, 1, none⟩ = some (.slice (some ad107) l0_1.length c0_1) := (xC_ BK105.out 1).trans rfl; have hfz29_0 := xF_ BK105.out 0; have hfz29_1 := xF_ BK105.out 1) | ((with_reducible refine gate_callee (f := 28) rfl ?_); refine goesL_ (some 38) rfl rfl Try.func28 (by kernel_rfl) rfl #[.agg #[.slice A0_0 l0_0.length c0_0, .slice (some ad107) l0_1.length c0_1], .int .i64 ((rd_T27 l0_1 x31_3).f0)] rfl (by (try simp only [List.map_toArray, List.map_cons, List.map_nil]); first | done | rfl) ?_; (with_reducible refine (disk_is.calls _ _ l0_0 _ _ l0_1 ((rd_T27 l0_1 x31_3).f0) true _ ?side1 ?side2 ?side3 ?side4 A17.out).mono ?_); (case side1 => exact Kd.C_below HR0_0.out (by repeat (first | (with_reducible first | exact HB.out | apply yA_ | apply yN_ | apply yD_ | refine yS_ ?_ GE105.out | refine yS_ ?_ GE108.out) | exact HB.out))); (case side2 => exact HC0_0.out); (case side3 => exact Kd.C_below HR0_1.out (by repeat (first | (with_reducible first | exact HB.out | apply yA_ | apply yN_ | apply yD_ | refine yS_ ?_ GE105.out | refine yS_ ?_ GE108.out) | exact HB.out))); (case side4 => exact HC0_1.out); rintro e w30 ⟨rfl, hb⟩; refine ⟨_, rfl, ?_⟩; have n0_ := Aside0.mk (blk_below (g := gb105) (o := .cells #[.slice A0_0 l0_0.length c0_0, .slice (some ad107) l0_1.length c0_1] 25 (0, 0)) (by (with_reducible repeat (first | apply xN_ | apply xD_ | apply xA_)); refine xR_ ?_ NB105_108.out _; refine xR_ ?_ NB105_108.out _; (with_reducible repeat (first | apply xN_ | apply xD_ | apply xA_)); exact BK105.out) hb); have n1_ := Aside0.mk (blk_below (g := gb108) (o := .cells #[.int .i64 ((rd_T27 l0_1 x31_3).f0), .string ((rd_T27 l0_1 x31_3).f1)] 27 (0, 0)) (by (with_reducible repeat (first | apply xN_ | apply xD_ | apply xA_)); refine blk_put (cs := #[.int .i64 ((rd_T27 l0_1 x31_3).f0), .string (⟨#[]⟩ : ByteArray)]) ?_ 1 _ rfl; refine blk_put (cs := #[.int .i64 0, .string (⟨#[]⟩ : ByteArray)]) ?_ 0 _ rfl; (with_reducible repeat (first | apply xN_ | apply xD_ | apply xA_)); exact BK108.out) hb); have n2_ := Aside0.mk (below_step (by repeat (first | (with_reducible first | exact HB.out | apply yA_ | apply yN_ | apply yD_ | refine yS_ ?_ GE105.out | refine yS_ ?_ GE108.out) | exact HB.out)) hb); clear BK105; clear BK108; clear HB; have BK105 := n0_; have BK108 := n1_; have HB := n2_; clear n0_ n1_ n2_; (try clear hb); (try clear hb2); (try clear hk); (try clear hi); have hcz31_0 : w30.cell? ⟨gb108, 0, none⟩ = some (.int .i64 ((rd_T27 l0_1 x31_3).f0)) := (xC_ BK108.out 0).trans rfl; have hcz31_1 : w30.cell? ⟨gb108, 1, none⟩ = some (.string ((rd_T27 l0_1 x31_3).f1)) := (xC_ BK108.out 1).trans rfl; have hfz31_0 := xF_ BK108.out 0; have hfz31_1 := xF_ BK108.out 1))
              go_ret
              exact ⟨by first | rfl | (simp [errW_none, errW_some] <;> rfl) | (simp [*, errW_none, errW_some] <;> rfl), by repeat (first | (with_reducible first | exact HB.out | apply yA_ | apply yN_ | apply yD_ | refine yS_ ?_ GE105.out | refine yS_ ?_ GE108.out) | exact HB.out)⟩
            ·replace c18 := Bool.eq_false_iff.mpr c18
             subst c18
             have H1 : (some false) = some r := by rw [if_neg (show ¬ (false = true) by decide)] at H; exact H
             clear H
             have H := H1
             clear H1
             obtain rfl := Option.some.inj H
             have p107 : 0 ≤ (x31_3 : Int) := of_decide_eq_true (by first | (with_reducible assumption) | assumption)
             have q107 : x31_3 < (l0_1.length : Int) := of_decide_eq_true (by first | (with_reducible assumption) | assumption)
             obtain ⟨ad107, e107, hx107_0, hx107_1⟩ := at_T27 HR0_1.out x31_3 p107 q107
             cases e107
             replace hx107_0 := (HB.out.cell (World.block_lt_of_cell? w _ hx107_0)).trans hx107_0
             replace hx107_1 := (HB.out.cell (World.block_lt_of_cell? w _ hx107_1)).trans hx107_1
             replace p107 := eq_true p107
             replace q107 := eq_true q107
             go_wp2_with (first | ((with_reducible refine gate_dst (N := 6) rfl ?_); (try (refine gate_guard (by rfl) ?_; dsimp only)); refine box_event ?hg (N := 6) ?hd (cs := #[.int .i64 0, .string (⟨#[]⟩ : ByteArray)]) (t := 27) ?hr ?_; (case hd => rfl); (case hg => rfl); (case hr => first | (go_simp; done) | (go_simp; rfl)); intro gb108 hg w32 hbox hb; have n0_ := Aside0.mk (blk_below (g := gb105) (o := .cells #[.slice A0_0 l0_0.length c0_0, .slice (some ad107) l0_1.length c0_1] 25 (0, 0)) (by (with_reducible repeat (first | apply xN_ | apply xD_ | apply xA_)); exact BK105.out) hb); have n1_ := Aside0.mk (below_step (by repeat (first | (with_reducible first | exact HB.out | apply yA_ | apply yN_ | apply yD_ | refine yS_ ?_ GE105.out) | exact HB.out)) hb); have n2_ := Aside0.mk (hbox); have n3_ := Aside0.mk ((by rw [hg]; exact (below_size (by repeat (first | (with_reducible first | exact HB.out | apply yA_ | apply yN_ | apply yD_ | refine yS_ ?_ GE105.out) | exact HB.out))) : w.heap.size ≤ gb108)); have n4_ := Aside0.mk ((by rw [hg]; exact (below_size (by repeat (first | (with_reducible first | exact HB.out | apply yA_ | apply yN_ | apply yD_ | refine yS_ ?_ GE105.out) | exact HB.out))) : w.heap.size ≤ gb108)); have n5_ := Aside0.mk ((by rw [hg]; exact Nat.ne_of_lt (blk_lt (g := gb105) (o := .cells #[.slice A0_0 l0_0.length c0_0, .slice (some ad107) l0_1.length c0_1] 25 (0, 0)) (by (with_reducible repeat (first | apply xN_ | apply xD_ | apply xA_)); exact BK105.out)) : gb105 ≠ gb108)); have n6_ := Aside0.mk ((by rw [hg]; exact Nat.ne_of_gt (blk_lt (g := gb105) (o := .cells #[.slice A0_0 l0_0.length c0_0, .slice (some ad107) l0_1.length c0_1] 25 (0, 0)) (by (with_reducible repeat (first | apply xN_ | apply xD_ | apply xA_)); exact BK105.out)) : gb108 ≠ gb105)); clear BK105; clear HB; have BK105 := n0_; have HB := n1_; have BK108 := n2_; have GW108 := n3_; have GE108 := n4_; have NB105_108 := n5_; have NB108_105 := n6_; clear n0_ n1_ n2_ n3_ n4_ n5_ n6_; clear hb hbox hg; have hnb33 := NB108_105.out; have hnc33 := NB105_108.out; have hcz34_0 : w32.cell? ⟨gb108, 0, none⟩ = some (.int .i64 0) := (xC_ BK108.out 0).trans rfl; have hcz34_1 : w32.cell? ⟨gb108, 1, none⟩ = some (.string (⟨#[]⟩ : ByteArray)) := (xC_ BK108.out 1).trans rfl; have hfz34_0 := xF_ BK108.out 0; have hfz34_1 := xF_ BK108.out 1; have hcz35_0 : w32.cell? ⟨gb105, 0, none⟩ = some (.slice A0_0 l0_0.length c0_0) := (xC_ BK105.out 0).trans rfl; have hcz35_1 : w32.cell? ⟨gb105, 1, none⟩ = some (.slice (some ad107) l0_1.length c0_1) := (xC_ BK105.out 1).trans rfl; have hfz35_0 := xF_ BK105.out 0; have hfz35_1 := xF_ BK105.out 1) | ((with_reducible refine gate_callee (f := 28) rfl ?_); refine goesL_ (some 38) rfl rfl Try.func28 (by kernel_rfl) rfl #[.agg #[.slice A0_0 l0_0.length c0_0, .slice (some ad107) l0_1.length c0_1], .int .i64 ((rd_T27 l0_1 x31_3).f0)] rfl (by (try simp only [List.map_toArray, List.map_cons, List.map_nil]); first | done | rfl) ?_; (with_reducible refine (disk_is.calls _ _ l0_0 _ _ l0_1 ((rd_T27 l0_1 x31_3).f0) false _ ?side1 ?side2 ?side3 ?side4 A17.out).mono ?_); (case side1 => exact Kd.C_below HR0_0.out (by repeat (first | (with_reducible first | exact HB.out | apply yA_ | apply yN_ | apply yD_ | refine yS_ ?_ GE105.out | refine yS_ ?_ GE108.out) | exact HB.out))); (case side2 => exact HC0_0.out); (case side3 => exact Kd.C_below HR0_1.out (by repeat (first | (with_reducible first | exact HB.out | apply yA_ | apply yN_ | apply yD_ | refine yS_ ?_ GE105.out | refine yS_ ?_ GE108.out) | exact HB.out))); (case side4 => exact HC0_1.out); rintro e w36 ⟨rfl, hb⟩; refine ⟨_, rfl, ?_⟩; have n0_ := Aside0.mk (blk_below (g := gb105) (o := .cells #[.slice A0_0 l0_0.length c0_0, .slice (some ad107) l0_1.length c0_1] 25 (0, 0)) (by (with_reducible repeat (first | apply xN_ | apply xD_ | apply xA_)); refine xR_ ?_ NB105_108.out _; refine xR_ ?_ NB105_108.out _; (with_reducible repeat (first | apply xN_ | apply xD_ | apply xA_)); exact BK105.out) hb); have n1_ := Aside0.mk (blk_below (g := gb108) (o := .cells #[.int .i64 ((rd_T27 l0_1 x31_3).f0), .string ((rd_T27 l0_1 x31_3).f1)] 27 (0, 0)) (by (with_reducible repeat (first | apply xN_ | apply xD_ | apply xA_)); refine blk_put (cs := #[.int .i64 ((rd_T27 l0_1 x31_3).f0), .string (⟨#[]⟩ : ByteArray)]) ?_ 1 _ rfl; refine blk_put (cs := #[.int .i64 0, .string (⟨#[]⟩ : ByteArray)]) ?_ 0 _ rfl; (with_reducible repeat (first | apply xN_ | apply xD_ | apply xA_)); exact BK108.out) hb); have n2_ := Aside0.mk (below_step (by repeat (first | (with_reducible first | exact HB.out | apply yA_ | apply yN_ | apply yD_ | refine yS_ ?_ GE105.out | refine yS_ ?_ GE108.out) | exact HB.out)) hb); clear BK105; clear BK108; clear HB; have BK105 := n0_; have BK108 := n1_; have HB := n2_; clear n0_ n1_ n2_; (try clear hb); (try clear hb2); (try clear hk); (try clear hi)))
             go_ret
             exact ⟨by first | rfl | (simp [errW_none, errW_some] <;> rfl) | (simp [*, errW_none, errW_some] <;> rfl), by repeat (first | (with_reducible first | exact HB.out | apply yA_ | apply yN_ | apply yD_ | refine yS_ ?_ GE105.out | refine yS_ ?_ GE108.out) | exact HB.out)⟩
           ·rw [if_neg c16] at H
            exact absurd H (by simp)
          ·rw [if_neg c15] at H
           exact absurd H (by simp)
         ·rw [if_neg c14] at H
          have c14b0 : decide (x31_3 < (l0_1.length : Int)) = false := decide_eq_false c14
          clear c14
          obtain rfl := Option.some.inj H
          go_wp2
          go_ret
          exact ⟨by first | rfl | (simp [errW_none, errW_some] <;> rfl) | (simp [*, errW_none, errW_some] <;> rfl), by repeat (first | (with_reducible first | exact HB.out | apply yA_ | apply yN_ | apply yD_ | refine yS_ ?_ GE105.out) | exact HB.out)⟩
def slices_Equal_string_string.l0 : Nat → List ByteArray → List ByteArray → Int → Int → Option (Bool)
 | 0, _, _, _, _ => none
 | k + 1, x0, x1, x12, x13 => if x13 < x12 then (if 0 ≤ x13 then (if x13 < (x0.length : Int) then (if x13 < (x1.length : Int) then (if (rdOf ByteArray.empty x0 x13).toList = (rdOf ByteArray.empty x1 x13).toList then (slices_Equal_string_string.l0 k x0 x1 x12 (wrap64 (x13 + 1))) else (some false)) else (none)) else (none)) else (none)) else (some true)
def slices_Equal_string_string.f (k : Nat) (l0 : List ByteArray) (l1 : List ByteArray) : Option (Bool) := if (l0.length : Int) = (l1.length : Int) then (slices_Equal_string_string.l0 k l0 l1 (l0.length : Int) 0) else (some false)
theorem slices_Equal_string_string.mono_l : ∀ k, (∀ y0 y1 y2 y3, LeO (slices_Equal_string_string.l0 k y0 y1 y2 y3) (slices_Equal_string_string.l0 (k + 1) y0 y1 y2 y3))
 | 0 => fun _ _ _ _ r h => by simp [slices_Equal_string_string.l0] at h
 | k + 1 => by
  have ih0 := slices_Equal_string_string.mono_l k
  ·intro y0 y1 y2 y3
   unfold slices_Equal_string_string.l0
   repeat' first
   | (with_reducible exact ih0 _ _ _ _)
   | (with_reducible exact LeO.refl _)
   | (with_reducible exact LeO.none _)
   | (with_reducible refine LeO.ite ?_ ?_)
   | (with_reducible refine LeO.bind ?_ (fun _ => ?_))
   | exact ih0 _ _ _ _
   | exact LeO.none _
   | refine LeO.ite ?_ ?_
   | refine LeO.bind ?_ (fun _ => ?_)
theorem slices_Equal_string_string.mono : ∀ a0 a1 k, LeO (slices_Equal_string_string.f k a0 a1) (slices_Equal_string_string.f (k + 1) a0 a1) := by
 intro a0 a1 k
 have ih0 := slices_Equal_string_string.mono_l k
 unfold slices_Equal_string_string.f
 repeat' first
   | (with_reducible exact ih0 _ _ _ _)
   | (with_reducible exact LeO.refl _)
   | (with_reducible exact LeO.none _)
   | (with_reducible refine LeO.ite ?_ ?_)
   | (with_reducible refine LeO.bind ?_ (fun _ => ?_))
   | exact ih0 _ _ _ _
   | exact LeO.none _
   | refine LeO.ite ?_ ?_
   | refine LeO.bind ?_ (fun _ => ?_)
set_option maxHeartbeats 8000000 in
set_option maxRecDepth 100000 in
theorem slices_Equal_string_string.calls (k : Nat) (A0 : Option Addr) (c0 : Nat) (l0 : List ByteArray) (A1 : Option Addr) (c1 : Nat) (l1 : List ByteArray) (r : Bool) (w : World) (hr0 : Kd.C Kd.string w A0 l0.length l0) (hc0 : l0.length ≤ c0) (hr1 : Kd.C Kd.string w A1 l1.length l1) (hc1 : l1.length ≤ c1) (h : slices_Equal_string_string.f k l0 l1 = some r) :
  Calls Try.prog 36 #[.slice A0 l0.length c0, .slice A1 l1.length c1] w fun e w' => e = .returned (.bool r) ∧ Drawn0 w w' := by
 have HR0 := Aside0.mk hr0
 have HC0 := Aside0.mk hc0
 clear hr0 hc0
 have HR1 := Aside0.mk hr1
 have HC1 := Aside0.mk hc1
 clear hr1 hc1
 have H : (if (l0.length : Int) = (l1.length : Int) then (slices_Equal_string_string.l0 k l0 l1 (l0.length : Int) 0) else (some false)) = some r := h
 clear h
 by_cases c3 : (l0.length : Int) = (l1.length : Int)
 ·rw [if_pos c3] at H
  have c3b0 : ((l0.length : Int) == (l1.length : Int)) = true := beq_iff_eq.mpr c3
  have c3b1 : ((l0.length : Int) != (l1.length : Int)) = false := bne_eq_false_iff_eq.mpr c3
  have c3b2 : (l0.length == l1.length) = true := by first | simpa using c3 | (simp at c3 ⊢; omega)
  clear c3
  have H' := Aside0.mk H
  clear H
  go_enter Try.func36, Try.ntmps36
  go_wp2
  repeat (go_quiet (fail); try go_wp2)
  go_loopg [13] k (fun kq v13 w' => ∃ (x13_1 : Int), v13 = .int .i64 x13_1 ∧ Aside0 (slices_Equal_string_string.l0 kq l0 l1 (l0.length : Int) x13_1 = some r) ∧ Aside0 (kq ≤ k) ∧ Drawn0 w w')
  case atStart => exact ⟨(0), (by first | rfl | (simp; done) | (simp [*]; done)), H', ⟨Nat.le_refl _⟩, by repeat (first | exact Drawn0.refl _ | apply Drawn0.step)⟩
  case round =>
   clear H'
   (try clear c1); (try clear p2); (try clear c3); (try clear c3b0); (try clear c3b1); (try clear c3b2)
   obtain ⟨x13_1, rfl, HA, HK1, ⟨m1, rfl⟩⟩ := hrel
   cases gk with
   | zero => exact absurd HA.out (by simp [slices_Equal_string_string.l0])
   | succ k1 =>
    have H := HA.out
    clear HA
    simp only [slices_Equal_string_string.l0] at H
    by_cases c4 : x13_1 < (l0.length : Int)
    ·rw [if_pos c4] at H
     have c4b0 : decide (x13_1 < (l0.length : Int)) = true := decide_eq_true c4
     clear c4
     by_cases c5 : 0 ≤ x13_1
     ·rw [if_pos c5] at H
      have c5b0 : decide (0 ≤ x13_1) = true := decide_eq_true c5
      clear c5
      by_cases c6 : x13_1 < (l0.length : Int)
      ·rw [if_pos c6] at H
       have c6b0 : decide (x13_1 < (l0.length : Int)) = true := decide_eq_true c6
       clear c6
       by_cases c7 : x13_1 < (l1.length : Int)
       ·rw [if_pos c7] at H
        have c7b0 : decide (x13_1 < (l1.length : Int)) = true := decide_eq_true c7
        clear c7
        by_cases c8 : (rdOf ByteArray.empty l0 x13_1).toList = (rdOf ByteArray.empty l1 x13_1).toList
        ·rw [if_pos c8] at H
         have c8b0 : ((rdOf ByteArray.empty l0 x13_1).toList == (rdOf ByteArray.empty l1 x13_1).toList) = true := beq_iff_eq.mpr c8
         have c8b1 : ((rdOf ByteArray.empty l0 x13_1).toList != (rdOf ByteArray.empty l1 x13_1).toList) = false := bne_eq_false_iff_eq.mpr c8
         clear c8
         have H' := Aside0.mk H
         clear H
         have p124 : 0 ≤ (x13_1 : Int) := of_decide_eq_true (by first | (with_reducible assumption) | assumption)
         have q124 : x13_1 < (l0.length : Int) := of_decide_eq_true (by first | (with_reducible assumption) | assumption)
         obtain ⟨ad124, e124, hx124_0⟩ := Kd.at_string HR0.out x13_1 p124 q124
         cases e124
         replace p124 := eq_true p124
         replace q124 := eq_true q124
         have p125 : 0 ≤ (x13_1 : Int) := of_decide_eq_true (by first | (with_reducible assumption) | assumption)
         have q125 : x13_1 < (l1.length : Int) := of_decide_eq_true (by first | (with_reducible assumption) | assumption)
         obtain ⟨ad125, e125, hx125_0⟩ := Kd.at_string HR1.out x13_1 p125 q125
         cases e125
         replace p125 := eq_true p125
         replace q125 := eq_true q125
         go_wp2
         repeat (go_quiet (fail); try go_wp2)
         go_roundg k1
         case measure => have := HK1.out; omega
         case rel => exact ⟨(wrap64 (x13_1 + 1)), (by first | rfl | (simp; done) | (simp [*]; done)), H', ⟨by have := HK1.out; omega⟩, by repeat (first | exact Drawn0.refl _ | apply Drawn0.step)⟩
        ·rw [if_neg c8] at H
         have c8b0 : ((rdOf ByteArray.empty l0 x13_1).toList == (rdOf ByteArray.empty l1 x13_1).toList) = false := beq_eq_false_iff_ne.mpr c8
         have c8b1 : ((rdOf ByteArray.empty l0 x13_1).toList != (rdOf ByteArray.empty l1 x13_1).toList) = true := bne_iff_ne.mpr c8
         obtain rfl := Option.some.inj H
         have p124 : 0 ≤ (x13_1 : Int) := of_decide_eq_true (by first | (with_reducible assumption) | assumption)
         have q124 : x13_1 < (l0.length : Int) := of_decide_eq_true (by first | (with_reducible assumption) | assumption)
         obtain ⟨ad124, e124, hx124_0⟩ := Kd.at_string HR0.out x13_1 p124 q124
         cases e124
         replace p124 := eq_true p124
         replace q124 := eq_true q124
         have p125 : 0 ≤ (x13_1 : Int) := of_decide_eq_true (by first | (with_reducible assumption) | assumption)
         have q125 : x13_1 < (l1.length : Int) := of_decide_eq_true (by first | (with_reducible assumption) | assumption)
         obtain ⟨ad125, e125, hx125_0⟩ := Kd.at_string HR1.out x13_1 p125 q125
         cases e125
         replace p125 := eq_true p125
         replace q125 := eq_true q125
         go_wp2
         repeat (go_quiet (fail); try go_wp2)
         go_ret
         exact ⟨by first | rfl | (simp; done) | (simp [*]; done), by repeat (first | exact Drawn0.refl _ | apply Drawn0.step)⟩
       ·rw [if_neg c7] at H
        exact absurd H (by simp)
      ·rw [if_neg c6] at H
       exact absurd H (by simp)
     ·rw [if_neg c5] at H
      exact absurd H (by simp)
    ·rw [if_neg c4] at H
     have c4b0 : decide (x13_1 < (l0.length : Int)) = false := decide_eq_false c4
     clear c4
     obtain rfl := Option.some.inj H
     go_wp2
     repeat (go_quiet (fail); try go_wp2)
     go_ret
     exact ⟨by first | rfl | (simp; done) | (simp [*]; done), by repeat (first | exact Drawn0.refl _ | apply Drawn0.step)⟩
 ·rw [if_neg c3] at H
  have c3b0 : ((l0.length : Int) == (l1.length : Int)) = false := beq_eq_false_iff_ne.mpr c3
  have c3b1 : ((l0.length : Int) != (l1.length : Int)) = true := bne_iff_ne.mpr c3
  have c3b2 : (l0.length == l1.length) = false := by first | simpa using c3 | (simp at c3 ⊢; omega)
  obtain rfl := Option.some.inj H
  go_enter Try.func36, Try.ntmps36
  go_wp2
  repeat (go_quiet (fail); try go_wp2)
  go_ret
  exact ⟨by first | rfl | (simp; done) | (simp [*]; done), by repeat (first | exact Drawn0.refl _ | apply Drawn0.step)⟩
section
attribute [local go_sem high] eqA27
def api_Write_37.l0 : Nat → List (S27) → List (S27) → Int → Int → Option (Bool)
 | 0, _, _, _, _ => none
 | k + 1, x0, x1, x12, x13 => if x13 < x12 then (if 0 ≤ x13 then (if x13 < (x0.length : Int) then (if x13 < (x1.length : Int) then (if (!(((rd_T27 x0 x13).f0) == ((rd_T27 x1 x13).f0)) || (!((((rd_T27 x0 x13).f1).toList) == (((rd_T27 x1 x13).f1).toList)))) = true then (some false) else (api_Write_37.l0 k x0 x1 x12 (wrap64 (x13 + 1)))) else (none)) else (none)) else (none)) else (some true)
def api_Write_37.f (k : Nat) (l0 : List (S27)) (l1 : List (S27)) : Option (Bool) := if (l0.length : Int) = (l1.length : Int) then (api_Write_37.l0 k l0 l1 (l0.length : Int) 0) else (some false)
theorem api_Write_37.mono_l : ∀ k, (∀ y0 y1 y2 y3, LeO (api_Write_37.l0 k y0 y1 y2 y3) (api_Write_37.l0 (k + 1) y0 y1 y2 y3))
 | 0 => fun _ _ _ _ r h => by simp [api_Write_37.l0] at h
 | k + 1 => by
  have ih0 := api_Write_37.mono_l k
  ·intro y0 y1 y2 y3
   unfold api_Write_37.l0
   repeat' first
   | (with_reducible exact ih0 _ _ _ _)
   | (with_reducible exact LeO.refl _)
   | (with_reducible exact LeO.none _)
   | (with_reducible refine LeO.ite ?_ ?_)
   | (with_reducible refine LeO.bind ?_ (fun _ => ?_))
   | exact ih0 _ _ _ _
   | exact LeO.none _
   | refine LeO.ite ?_ ?_
   | refine LeO.bind ?_ (fun _ => ?_)
theorem api_Write_37.mono : ∀ a0 a1 k, LeO (api_Write_37.f k a0 a1) (api_Write_37.f (k + 1) a0 a1) := by
 intro a0 a1 k
 have ih0 := api_Write_37.mono_l k
 unfold api_Write_37.f
 repeat' first
   | (with_reducible exact ih0 _ _ _ _)
   | (with_reducible exact LeO.refl _)
   | (with_reducible exact LeO.none _)
   | (with_reducible refine LeO.ite ?_ ?_)
   | (with_reducible refine LeO.bind ?_ (fun _ => ?_))
   | exact ih0 _ _ _ _
   | exact LeO.none _
   | refine LeO.ite ?_ ?_
   | refine LeO.bind ?_ (fun _ => ?_)
set_option maxHeartbeats 8000000 in
set_option maxRecDepth 100000 in
theorem api_Write_37.calls (k : Nat) (A0 : Option Addr) (c0 : Nat) (l0 : List (S27)) (A1 : Option Addr) (c1 : Nat) (l1 : List (S27)) (r : Bool) (w : World) (hr0 : Kd.C k27 w A0 l0.length l0) (hc0 : l0.length ≤ c0) (hr1 : Kd.C k27 w A1 l1.length l1) (hc1 : l1.length ≤ c1) (h : api_Write_37.f k l0 l1 = some r) :
  Calls Try.prog 37 #[.slice A0 l0.length c0, .slice A1 l1.length c1] w fun e w' => e = .returned (.bool r) ∧ Drawn0 w w' := by
 have hu27 := Try.underlying27
 have HR0 := Aside0.mk hr0
 have HC0 := Aside0.mk hc0
 clear hr0 hc0
 have HR1 := Aside0.mk hr1
 have HC1 := Aside0.mk hc1
 clear hr1 hc1
 have H : (if (l0.length : Int) = (l1.length : Int) then (api_Write_37.l0 k l0 l1 (l0.length : Int) 0) else (some false)) = some r := h
 clear h
 by_cases c3 : (l0.length : Int) = (l1.length : Int)
 ·rw [if_pos c3] at H
  have c3b0 : ((l0.length : Int) == (l1.length : Int)) = true := beq_iff_eq.mpr c3
  have c3b1 : ((l0.length : Int) != (l1.length : Int)) = false := bne_eq_false_iff_eq.mpr c3
  have c3b2 : (l0.length == l1.length) = true := by first | simpa using c3 | (simp at c3 ⊢; omega)
  clear c3
  have H' := Aside0.mk H
  clear H
  go_enter Try.func37, Try.ntmps37
  go_wp2
  repeat (go_quiet (fail); try go_wp2)
  go_loopg [13] k (fun kq v13 w' => ∃ (x13_1 : Int), v13 = .int .i64 x13_1 ∧ Aside0 (api_Write_37.l0 kq l0 l1 (l0.length : Int) x13_1 = some r) ∧ Aside0 (kq ≤ k) ∧ Drawn0 w w')
  case atStart => exact ⟨(0), (by first | rfl | (simp; done) | (simp [*]; done)), H', ⟨Nat.le_refl _⟩, by repeat (first | exact Drawn0.refl _ | apply Drawn0.step)⟩
  case round =>
   clear H'
   (try clear c1); (try clear p2); (try clear c3); (try clear c3b0); (try clear c3b1); (try clear c3b2)
   obtain ⟨x13_1, rfl, HA, HK1, ⟨m1, rfl⟩⟩ := hrel
   cases gk with
   | zero => exact absurd HA.out (by simp [api_Write_37.l0])
   | succ k1 =>
    have H := HA.out
    clear HA
    simp only [api_Write_37.l0] at H
    by_cases c4 : x13_1 < (l0.length : Int)
    ·rw [if_pos c4] at H
     have c4b0 : decide (x13_1 < (l0.length : Int)) = true := decide_eq_true c4
     clear c4
     by_cases c5 : 0 ≤ x13_1
     ·rw [if_pos c5] at H
      have c5b0 : decide (0 ≤ x13_1) = true := decide_eq_true c5
      clear c5
      by_cases c6 : x13_1 < (l0.length : Int)
      ·rw [if_pos c6] at H
       have c6b0 : decide (x13_1 < (l0.length : Int)) = true := decide_eq_true c6
       clear c6
       by_cases c7 : x13_1 < (l1.length : Int)
       ·rw [if_pos c7] at H
        have c7b0 : decide (x13_1 < (l1.length : Int)) = true := decide_eq_true c7
        clear c7
        by_cases c8 : (!(((rd_T27 l0 x13_1).f0) == ((rd_T27 l1 x13_1).f0)) || (!((((rd_T27 l0 x13_1).f1).toList) == (((rd_T27 l1 x13_1).f1).toList)))) = true
        ·rw [if_pos c8] at H
         have c8b0 : (!(((rd_T27 l0 x13_1).f0) == ((rd_T27 l1 x13_1).f0)) || (!((((rd_T27 l0 x13_1).f1).toList) == (((rd_T27 l1 x13_1).f1).toList)))) = true := c8
         clear c8
         obtain rfl := Option.some.inj H
         have p126 : 0 ≤ (x13_1 : Int) := of_decide_eq_true (by first | (with_reducible assumption) | assumption)
         have q126 : x13_1 < (l0.length : Int) := of_decide_eq_true (by first | (with_reducible assumption) | assumption)
         obtain ⟨ad126, e126, hx126_0, hx126_1⟩ := at_T27 HR0.out x13_1 p126 q126
         cases e126
         replace p126 := eq_true p126
         replace q126 := eq_true q126
         have p127 : 0 ≤ (x13_1 : Int) := of_decide_eq_true (by first | (with_reducible assumption) | assumption)
         have q127 : x13_1 < (l1.length : Int) := of_decide_eq_true (by first | (with_reducible assumption) | assumption)
         obtain ⟨ad127, e127, hx127_0, hx127_1⟩ := at_T27 HR1.out x13_1 p127 q127
         cases e127
         replace p127 := eq_true p127
         replace q127 := eq_true q127
         go_wp2
         repeat (go_quiet (fail); try go_wp2)
         go_ret
         exact ⟨by first | rfl | (simp; done) | (simp [*]; done), by repeat (first | exact Drawn0.refl _ | apply Drawn0.step)⟩
        ·rw [if_neg c8] at H
         have c8b0 : (!(((rd_T27 l0 x13_1).f0) == ((rd_T27 l1 x13_1).f0)) || (!((((rd_T27 l0 x13_1).f1).toList) == (((rd_T27 l1 x13_1).f1).toList)))) = false := by simpa using c8
         clear c8
         have H' := Aside0.mk H
         clear H
         have p126 : 0 ≤ (x13_1 : Int) := of_decide_eq_true (by first | (with_reducible assumption) | assumption)
         have q126 : x13_1 < (l0.length : Int) := of_decide_eq_true (by first | (with_reducible assumption) | assumption)
         obtain ⟨ad126, e126, hx126_0, hx126_1⟩ := at_T27 HR0.out x13_1 p126 q126
         cases e126
         replace p126 := eq_true p126
         replace q126 := eq_true q126
         have p127 : 0 ≤ (x13_1 : Int) := of_decide_eq_true (by first | (with_reducible assumption) | assumption)
         have q127 : x13_1 < (l1.length : Int) := of_decide_eq_true (by first | (with_reducible assumption) | assumption)
         obtain ⟨ad127, e127, hx127_0, hx127_1⟩ := at_T27 HR1.out x13_1 p127 q127
         cases e127
         replace p127 := eq_true p127
         replace q127 := eq_true q127
         go_wp2
         repeat (go_quiet (fail); try go_wp2)
         go_roundg k1
         case measure => have := HK1.out; omega
         case rel => exact ⟨(wrap64 (x13_1 + 1)), (by first | rfl | (simp; done) | (simp [*]; done)), H', ⟨by have := HK1.out; omega⟩, by repeat (first | exact Drawn0.refl _ | apply Drawn0.step)⟩
       ·rw [if_neg c7] at H
        exact absurd H (by simp)
      ·rw [if_neg c6] at H
       exact absurd H (by simp)
     ·rw [if_neg c5] at H
      exact absurd H (by simp)
    ·rw [if_neg c4] at H
     have c4b0 : decide (x13_1 < (l0.length : Int)) = false := decide_eq_false c4
     clear c4
     obtain rfl := Option.some.inj H
     go_wp2
     repeat (go_quiet (fail); try go_wp2)
     go_ret
     exact ⟨by first | rfl | (simp; done) | (simp [*]; done), by repeat (first | exact Drawn0.refl _ | apply Drawn0.step)⟩
 ·rw [if_neg c3] at H
  have c3b0 : ((l0.length : Int) == (l1.length : Int)) = false := beq_eq_false_iff_ne.mpr c3
  have c3b1 : ((l0.length : Int) != (l1.length : Int)) = true := bne_iff_ne.mpr c3
  have c3b2 : (l0.length == l1.length) = false := by first | simpa using c3 | (simp at c3 ⊢; omega)
  obtain rfl := Option.some.inj H
  go_enter Try.func37, Try.ntmps37
  go_wp2
  repeat (go_quiet (fail); try go_wp2)
  go_ret
  exact ⟨by first | rfl | (simp; done) | (simp [*]; done), by repeat (first | exact Drawn0.refl _ | apply Drawn0.step)⟩
end
def disk_Same.f (k : Nat) (l0_0 : List ByteArray) (l0_1 : List (S27)) (l1_0 : List ByteArray) (l1_1 : List (S27)) : Option (Bool) := (slices_Equal_string_string.f k l0_0 l1_0).bind fun t130 => (if t130 = true then ((api_Write_37.f k l0_1 l1_1).bind fun t131 => (some t131)) else (some false))
theorem disk_Same.mono : ∀ a0 a1 a2 a3 k, LeO (disk_Same.f k a0 a1 a2 a3) (disk_Same.f (k + 1) a0 a1 a2 a3) := by
 intro a0 a1 a2 a3 k
 unfold disk_Same.f
 repeat' first
   | (with_reducible exact api_Write_37.mono _ _ _)
   | (with_reducible exact slices_Equal_string_string.mono _ _ _)
   | (with_reducible exact LeO.refl _)
   | (with_reducible exact LeO.none _)
   | (with_reducible refine LeO.ite ?_ ?_)
   | (with_reducible refine LeO.bind ?_ (fun _ => ?_))
   | exact api_Write_37.mono _ _ _
   | exact slices_Equal_string_string.mono _ _ _
   | exact LeO.none _
   | refine LeO.ite ?_ ?_
   | refine LeO.bind ?_ (fun _ => ?_)
set_option maxHeartbeats 8000000 in
set_option maxRecDepth 100000 in
theorem disk_Same.calls (k : Nat) (A0_0 : Option Addr) (c0_0 : Nat) (l0_0 : List ByteArray) (A0_1 : Option Addr) (c0_1 : Nat) (l0_1 : List (S27)) (A1_0 : Option Addr) (c1_0 : Nat) (l1_0 : List ByteArray) (A1_1 : Option Addr) (c1_1 : Nat) (l1_1 : List (S27)) (r : Bool) (w : World) (hr0_0 : Kd.C Kd.string w A0_0 l0_0.length l0_0) (hc0_0 : l0_0.length ≤ c0_0) (hr0_1 : Kd.C k27 w A0_1 l0_1.length l0_1) (hc0_1 : l0_1.length ≤ c0_1) (hr1_0 : Kd.C Kd.string w A1_0 l1_0.length l1_0) (hc1_0 : l1_0.length ≤ c1_0) (hr1_1 : Kd.C k27 w A1_1 l1_1.length l1_1) (hc1_1 : l1_1.length ≤ c1_1) (h : disk_Same.f k l0_0 l0_1 l1_0 l1_1 = some r) :
  Calls Try.prog 24 #[.agg #[.slice A0_0 l0_0.length c0_0, .slice A0_1 l0_1.length c0_1], .agg #[.slice A1_0 l1_0.length c1_0, .slice A1_1 l1_1.length c1_1]] w fun e w' => e = .returned (.bool r) ∧ Below w.heap.size w w' := by
 have hu25 := Try.underlying25
 have HR0_0 := Aside0.mk hr0_0
 have HC0_0 := Aside0.mk hc0_0
 clear hr0_0 hc0_0
 have HR0_1 := Aside0.mk hr0_1
 have HC0_1 := Aside0.mk hc0_1
 clear hr0_1 hc0_1
 have HR1_0 := Aside0.mk hr1_0
 have HC1_0 := Aside0.mk hc1_0
 clear hr1_0 hc1_0
 have HR1_1 := Aside0.mk hr1_1
 have HC1_1 := Aside0.mk hc1_1
 clear hr1_1 hc1_1
 have HB := Aside0.mk (Below.refl w.heap.size w)
 have H : ((slices_Equal_string_string.f k l0_0 l1_0).bind fun t130 => (if t130 = true then ((api_Write_37.f k l0_1 l1_1).bind fun t131 => (some t131)) else (some false))) = some r := h
 clear h
 replace H := Option.bind_eq_some_iff.mp H
 obtain ⟨t130, A30, H⟩ := H
 replace H : (if t130 = true then ((api_Write_37.f k l0_1 l1_1).bind fun t131 => (some t131)) else (some false)) = some r := H
 have A3 := Aside0.mk A30
 clear A30
 by_cases c4 : t130 = true
 ·subst c4
  have H1 : ((api_Write_37.f k l0_1 l1_1).bind fun t131 => (some t131)) = some r := by rw [if_pos rfl] at H; exact H
  clear H
  have H := H1
  clear H1
  replace H := Option.bind_eq_some_iff.mp H
  obtain ⟨t131, A50, H⟩ := H
  replace H : (some t131) = some r := H
  have A5 := Aside0.mk A50
  clear A50
  obtain rfl := Option.some.inj H
  go_enter Try.func24, Try.ntmps24
  go_wp2_with (first | ((with_reducible refine gate_dst (N := 2) rfl ?_); refine box_event ?hg (N := 2) ?hd (cs := #[.slice A0_0 l0_0.length c0_0, .slice A0_1 l0_1.length c0_1]) (t := 25) ?hr ?_; (case hd => rfl); (case hg => rfl); (case hr => first | (go_simp; done) | (go_simp; rfl)); intro gb128 hg w6 hbox hb; have n0_ := Aside0.mk (below_step (by repeat (first | (with_reducible first | exact HB.out | apply yA_ | apply yN_ | apply yD_) | exact HB.out)) hb); have n1_ := Aside0.mk (hbox); have n2_ := Aside0.mk ((by rw [hg]; exact (below_size (by repeat (first | (with_reducible first | exact HB.out | apply yA_ | apply yN_ | apply yD_) | exact HB.out))) : w.heap.size ≤ gb128)); have n3_ := Aside0.mk ((by rw [hg]; exact (below_size (by repeat (first | (with_reducible first | exact HB.out | apply yA_ | apply yN_ | apply yD_) | exact HB.out))) : w.heap.size ≤ gb128)); clear HB; have HB := n0_; have BK128 := n1_; have GW128 := n2_; have GE128 := n3_; clear n0_ n1_ n2_ n3_; clear hb hbox hg) | ((with_reducible refine gate_dst (N := 3) rfl ?_); refine box_event ?hg (N := 3) ?hd (cs := #[.slice A1_0 l1_0.length c1_0, .slice A1_1 l1_1.length c1_1]) (t := 25) ?hr ?_; (case hd => rfl); (case hg => rfl); (case hr => first | (go_simp; done) | (go_simp; rfl)); intro gb129 hg w7 hbox hb; have n0_ := Aside0.mk (blk_below (g := gb128) (o := .cells #[.slice A0_0 l0_0.length c0_0, .slice A0_1 l0_1.length c0_1] 25 (0, 0)) (by (with_reducible repeat (first | apply xN_ | apply xD_ | apply xA_)); exact BK128.out) hb); have n1_ := Aside0.mk (below_step (by repeat (first | (with_reducible first | exact HB.out | apply yA_ | apply yN_ | apply yD_ | refine yS_ ?_ GE128.out) | exact HB.out)) hb); have n2_ := Aside0.mk (hbox); have n3_ := Aside0.mk ((by rw [hg]; exact (below_size (by repeat (first | (with_reducible first | exact HB.out | apply yA_ | apply yN_ | apply yD_ | refine yS_ ?_ GE128.out) | exact HB.out))) : w.heap.size ≤ gb129)); have n4_ := Aside0.mk ((by rw [hg]; exact (below_size (by repeat (first | (with_reducible first | exact HB.out | apply yA_ | apply yN_ | apply yD_ | refine yS_ ?_ GE128.out) | exact HB.out))) : w.heap.size ≤ gb129)); have n5_ := Aside0.mk ((by rw [hg]; exact Nat.ne_of_lt (blk_lt (g := gb128) (o := .cells #[.slice A0_0 l0_0.length c0_0, .slice A0_1 l0_1.length c0_1] 25 (0, 0)) (by (with_reducible repeat (first | apply xN_ | apply xD_ | apply xA_)); exact BK128.out)) : gb128 ≠ gb129)); have n6_ := Aside0.mk ((by rw [hg]; exact Nat.ne_of_gt (blk_lt (g := gb128) (o := .cells #[.slice A0_0 l0_0.length c0_0, .slice A0_1 l0_1.length c0_1] 25 (0, 0)) (by (with_reducible repeat (first | apply xN_ | apply xD_ | apply xA_)); exact BK128.out)) : gb129 ≠ gb128)); clear BK128; clear HB; have BK128 := n0_; have HB := n1_; have BK129 := n2_; have GW129 := n3_; have GE129 := n4_; have NB128_129 := n5_; have NB129_128 := n6_; clear n0_ n1_ n2_ n3_ n4_ n5_ n6_; clear hb hbox hg; have hnb8 := NB128_129.out; have hnc8 := NB129_128.out; have hcz9_0 : w7.cell? ⟨gb128, 0, none⟩ = some (.slice A0_0 l0_0.length c0_0) := (xC_ BK128.out 0).trans rfl; have hcz9_1 : w7.cell? ⟨gb128, 1, none⟩ = some (.slice A0_1 l0_1.length c0_1) := (xC_ BK128.out 1).trans rfl; have hfz9_0 := xF_ BK128.out 0; have hfz9_1 := xF_ BK128.out 1; have hcz10_0 : w7.cell? ⟨gb129, 0, none⟩ = some (.slice A1_0 l1_0.length c1_0) := (xC_ BK129.out 0).trans rfl; have hcz10_1 : w7.cell? ⟨gb129, 1, none⟩ = some (.slice A1_1 l1_1.length c1_1) := (xC_ BK129.out 1).trans rfl; have hfz10_0 := xF_ BK129.out 0; have hfz10_1 := xF_ BK129.out 1) | ((with_reducible refine gate_callee (f := 36) rfl ?_); refine goesL_ (some 9) rfl rfl Try.func36 (by kernel_rfl) rfl #[.slice A0_0 l0_0.length c0_0, .slice A1_0 l1_0.length c1_0] rfl (by (try simp only [List.map_toArray, List.map_cons, List.map_nil]); first | done | rfl) ?_; (with_reducible refine (slices_Equal_string_string.calls k _ _ l0_0 _ _ l1_0 true _ ?side1 ?side2 ?side3 ?side4 A3.out).mono ?_); (case side1 => repeat (first | exact (Kd.C_below HR0_0.out HB.out) | (with_reducible refine Kd.C_alloc ?_ _) | (with_reducible refine Kd.C_drewN ?_ _) | (with_reducible refine Kd.C_drew ?_))); (case side2 => exact HC0_0.out); (case side3 => repeat (first | exact (Kd.C_below HR1_0.out HB.out) | (with_reducible refine Kd.C_alloc ?_ _) | (with_reducible refine Kd.C_drewN ?_ _) | (with_reducible refine Kd.C_drew ?_))); (case side4 => exact HC1_0.out); rintro e w' ⟨rfl, ⟨nd, rfl⟩⟩; refine ⟨_, rfl, ?_⟩) | (go_at_call 36; (with_reducible refine (slices_Equal_string_string.calls k _ _ l0_0 _ _ l1_0 true _ ?side1 ?side2 ?side3 ?side4 A3.out).mono ?_); (case side1 => repeat (first | exact (Kd.C_below HR0_0.out HB.out) | (with_reducible refine Kd.C_alloc ?_ _) | (with_reducible refine Kd.C_drewN ?_ _) | (with_reducible refine Kd.C_drew ?_))); (case side2 => exact HC0_0.out); (case side3 => repeat (first | exact (Kd.C_below HR1_0.out HB.out) | (with_reducible refine Kd.C_alloc ?_ _) | (with_reducible refine Kd.C_drewN ?_ _) | (with_reducible refine Kd.C_drew ?_))); (case side4 => exact HC1_0.out); rintro e w' ⟨rfl, ⟨nd, rfl⟩⟩) | (go_at_call 37; (with_reducible refine (api_Write_37.calls k _ _ l0_1 _ _ l1_1 t131 _ ?side1 ?side2 ?side3 ?side4 A5.out).mono ?_); (case side1 => repeat (first | exact (Kd.C_below HR0_1.out (by repeat (first | (with_reducible first | exact HB.out | apply yA_ | apply yN_ | apply yD_ | refine yS_ ?_ GE128.out | refine yS_ ?_ GE129.out) | exact HB.out))) | (with_reducible refine Kd.C_alloc ?_ _) | (with_reducible refine Kd.C_drewN ?_ _) | (with_reducible refine Kd.C_drew ?_))); (case side2 => exact HC0_1.out); (case side3 => repeat (first | exact (Kd.C_below HR1_1.out (by repeat (first | (with_reducible first | exact HB.out | apply yA_ | apply yN_ | apply yD_ | refine yS_ ?_ GE128.out | refine yS_ ?_ GE129.out) | exact HB.out))) | (with_reducible refine Kd.C_alloc ?_ _) | (with_reducible refine Kd.C_drewN ?_ _) | (with_reducible refine Kd.C_drew ?_))); (case side4 => exact HC1_1.out); rintro e w' ⟨rfl, ⟨nd, rfl⟩⟩))
  go_ret
  exact ⟨by first | rfl | (simp [errW_none, errW_some] <;> rfl) | (simp [*, errW_none, errW_some] <;> rfl), by repeat (first | (with_reducible first | exact HB.out | apply yA_ | apply yN_ | apply yD_ | refine yS_ ?_ GE128.out | refine yS_ ?_ GE129.out) | exact HB.out)⟩
 ·replace c4 := Bool.eq_false_iff.mpr c4
  subst c4
  have H1 : (some false) = some r := by rw [if_neg (show ¬ (false = true) by decide)] at H; exact H
  clear H
  have H := H1
  clear H1
  obtain rfl := Option.some.inj H
  go_enter Try.func24, Try.ntmps24
  go_wp2_with (first | ((with_reducible refine gate_dst (N := 2) rfl ?_); refine box_event ?hg (N := 2) ?hd (cs := #[.slice A0_0 l0_0.length c0_0, .slice A0_1 l0_1.length c0_1]) (t := 25) ?hr ?_; (case hd => rfl); (case hg => rfl); (case hr => first | (go_simp; done) | (go_simp; rfl)); intro gb128 hg w11 hbox hb; have n0_ := Aside0.mk (below_step (by repeat (first | (with_reducible first | exact HB.out | apply yA_ | apply yN_ | apply yD_) | exact HB.out)) hb); have n1_ := Aside0.mk (hbox); have n2_ := Aside0.mk ((by rw [hg]; exact (below_size (by repeat (first | (with_reducible first | exact HB.out | apply yA_ | apply yN_ | apply yD_) | exact HB.out))) : w.heap.size ≤ gb128)); have n3_ := Aside0.mk ((by rw [hg]; exact (below_size (by repeat (first | (with_reducible first | exact HB.out | apply yA_ | apply yN_ | apply yD_) | exact HB.out))) : w.heap.size ≤ gb128)); clear HB; have HB := n0_; have BK128 := n1_; have GW128 := n2_; have GE128 := n3_; clear n0_ n1_ n2_ n3_; clear hb hbox hg) | ((with_reducible refine gate_dst (N := 3) rfl ?_); refine box_event ?hg (N := 3) ?hd (cs := #[.slice A1_0 l1_0.length c1_0, .slice A1_1 l1_1.length c1_1]) (t := 25) ?hr ?_; (case hd => rfl); (case hg => rfl); (case hr => first | (go_simp; done) | (go_simp; rfl)); intro gb129 hg w12 hbox hb; have n0_ := Aside0.mk (blk_below (g := gb128) (o := .cells #[.slice A0_0 l0_0.length c0_0, .slice A0_1 l0_1.length c0_1] 25 (0, 0)) (by (with_reducible repeat (first | apply xN_ | apply xD_ | apply xA_)); exact BK128.out) hb); have n1_ := Aside0.mk (below_step (by repeat (first | (with_reducible first | exact HB.out | apply yA_ | apply yN_ | apply yD_ | refine yS_ ?_ GE128.out) | exact HB.out)) hb); have n2_ := Aside0.mk (hbox); have n3_ := Aside0.mk ((by rw [hg]; exact (below_size (by repeat (first | (with_reducible first | exact HB.out | apply yA_ | apply yN_ | apply yD_ | refine yS_ ?_ GE128.out) | exact HB.out))) : w.heap.size ≤ gb129)); have n4_ := Aside0.mk ((by rw [hg]; exact (below_size (by repeat (first | (with_reducible first | exact HB.out | apply yA_ | apply yN_ | apply yD_ | refine yS_ ?_ GE128.out) | exact HB.out))) : w.heap.size ≤ gb129)); have n5_ := Aside0.mk ((by rw [hg]; exact Nat.ne_of_lt (blk_lt (g := gb128) (o := .cells #[.slice A0_0 l0_0.length c0_0, .slice A0_1 l0_1.length c0_1] 25 (0, 0)) (by (with_reducible repeat (first | apply xN_ | apply xD_ | apply xA_)); exact BK128.out)) : gb128 ≠ gb129)); have n6_ := Aside0.mk ((by rw [hg]; exact Nat.ne_of_gt (blk_lt (g := gb128) (o := .cells #[.slice A0_0 l0_0.length c0_0, .slice A0_1 l0_1.length c0_1] 25 (0, 0)) (by (with_reducible repeat (first | apply xN_ | apply xD_ | apply xA_)); exact BK128.out)) : gb129 ≠ gb128)); clear BK128; clear HB; have BK128 := n0_; have HB := n1_; have BK129 := n2_; have GW129 := n3_; have GE129 := n4_; have NB128_129 := n5_; have NB129_128 := n6_; clear n0_ n1_ n2_ n3_ n4_ n5_ n6_; clear hb hbox hg; have hnb13 := NB128_129.out; have hnc13 := NB129_128.out; have hcz14_0 : w12.cell? ⟨gb128, 0, none⟩ = some (.slice A0_0 l0_0.length c0_0) := (xC_ BK128.out 0).trans rfl; have hcz14_1 : w12.cell? ⟨gb128, 1, none⟩ = some (.slice A0_1 l0_1.length c0_1) := (xC_ BK128.out 1).trans rfl; have hfz14_0 := xF_ BK128.out 0; have hfz14_1 := xF_ BK128.out 1; have hcz15_0 : w12.cell? ⟨gb129, 0, none⟩ = some (.slice A1_0 l1_0.length c1_0) := (xC_ BK129.out 0).trans rfl; have hcz15_1 : w12.cell? ⟨gb129, 1, none⟩ = some (.slice A1_1 l1_1.length c1_1) := (xC_ BK129.out 1).trans rfl; have hfz15_0 := xF_ BK129.out 0; have hfz15_1 := xF_ BK129.out 1) | ((with_reducible refine gate_callee (f := 36) rfl ?_); refine goesL_ (some 9) rfl rfl Try.func36 (by kernel_rfl) rfl #[.slice A0_0 l0_0.length c0_0, .slice A1_0 l1_0.length c1_0] rfl (by (try simp only [List.map_toArray, List.map_cons, List.map_nil]); first | done | rfl) ?_; (with_reducible refine (slices_Equal_string_string.calls k _ _ l0_0 _ _ l1_0 false _ ?side1 ?side2 ?side3 ?side4 A3.out).mono ?_); (case side1 => repeat (first | exact (Kd.C_below HR0_0.out HB.out) | (with_reducible refine Kd.C_alloc ?_ _) | (with_reducible refine Kd.C_drewN ?_ _) | (with_reducible refine Kd.C_drew ?_))); (case side2 => exact HC0_0.out); (case side3 => repeat (first | exact (Kd.C_below HR1_0.out HB.out) | (with_reducible refine Kd.C_alloc ?_ _) | (with_reducible refine Kd.C_drewN ?_ _) | (with_reducible refine Kd.C_drew ?_))); (case side4 => exact HC1_0.out); rintro e w' ⟨rfl, ⟨nd, rfl⟩⟩; refine ⟨_, rfl, ?_⟩) | (go_at_call 36; (with_reducible refine (slices_Equal_string_string.calls k _ _ l0_0 _ _ l1_0 false _ ?side1 ?side2 ?side3 ?side4 A3.out).mono ?_); (case side1 => repeat (first | exact (Kd.C_below HR0_0.out HB.out) | (with_reducible refine Kd.C_alloc ?_ _) | (with_reducible refine Kd.C_drewN ?_ _) | (with_reducible refine Kd.C_drew ?_))); (case side2 => exact HC0_0.out); (case side3 => repeat (first | exact (Kd.C_below HR1_0.out HB.out) | (with_reducible refine Kd.C_alloc ?_ _) | (with_reducible refine Kd.C_drewN ?_ _) | (with_reducible refine Kd.C_drew ?_))); (case side4 => exact HC1_0.out); rintro e w' ⟨rfl, ⟨nd, rfl⟩⟩))
  go_ret
  exact ⟨by first | rfl | (simp [errW_none, errW_some] <;> rfl) | (simp [*, errW_none, errW_some] <;> rfl), by repeat (first | (with_reducible first | exact HB.out | apply yA_ | apply yN_ | apply yD_ | refine yS_ ?_ GE128.out | refine yS_ ?_ GE129.out) | exact HB.out)⟩
mutual
def armadaref01_May.l0 : Nat → Int → List ByteArray → List (S27) → Option (Bool)
 | 0, _, _, _ => none
 | k + 1, x3, x210000, x210001 => if x3 < (x210000.length : Int) then (if 0 ≤ x3 then (if ((rdOf ByteArray.empty x210000 x3).size : Int) = 32 then (armadaref01_May.l0 k (wrap64 (x3 + 1)) x210000 x210001) else (some false)) else (none)) else (armadaref01_May.l1 k 0 x210000 x210001)
def armadaref01_May.l1 : Nat → Int → List ByteArray → List (S27) → Option (Bool)
 | 0, _, _, _ => none
 | k + 1, x4, x210000, x210001 => if x4 < (x210001.length : Int) then (if 0 ≤ x4 then (if ((rd_T27 x210001 x4).f0) < 0 then (some false) else (if ((rd_T27 x210001 x4).f0) ≥ (x210000.length : Int) then (some false) else (if (((rd_T27 x210001 x4).f1).size : Int) = 32 then (armadaref01_May.l1 k (wrap64 (x4 + 1)) x210000 x210001) else (some false)))) else (none)) else (if (x210000.length : Int) ≥ 1 then (some (decide ((x210000.length : Int) ≤ 512))) else (some false))
end
def armadaref01_May.f (k : Nat) (l0_0 : List ByteArray) (l0_1 : List (S27)) : Option (Bool) := armadaref01_May.l0 k 0 l0_0 l0_1
theorem armadaref01_May.mono_l : ∀ k, (∀ y0 y1 y2, LeO (armadaref01_May.l0 k y0 y1 y2) (armadaref01_May.l0 (k + 1) y0 y1 y2)) ∧ (∀ y0 y1 y2, LeO (armadaref01_May.l1 k y0 y1 y2) (armadaref01_May.l1 (k + 1) y0 y1 y2))
 | 0 => ⟨fun _ _ _ r h => by simp [armadaref01_May.l0] at h, fun _ _ _ r h => by simp [armadaref01_May.l1] at h⟩
 | k + 1 => by
  obtain ⟨ih0, ih1⟩ := armadaref01_May.mono_l k
  refine ⟨?_, ?_⟩
  ·intro y0 y1 y2
   unfold armadaref01_May.l0
   repeat' first
   | (with_reducible exact ih0 _ _ _)
   | (with_reducible exact ih1 _ _ _)
   | (with_reducible exact LeO.refl _)
   | (with_reducible exact LeO.none _)
   | (with_reducible refine LeO.ite ?_ ?_)
   | (with_reducible refine LeO.bind ?_ (fun _ => ?_))
   | exact ih0 _ _ _
   | exact ih1 _ _ _
   | exact LeO.none _
   | refine LeO.ite ?_ ?_
   | refine LeO.bind ?_ (fun _ => ?_)
  ·intro y0 y1 y2
   unfold armadaref01_May.l1
   repeat' first
   | (with_reducible exact ih0 _ _ _)
   | (with_reducible exact ih1 _ _ _)
   | (with_reducible exact LeO.refl _)
   | (with_reducible exact LeO.none _)
   | (with_reducible refine LeO.ite ?_ ?_)
   | (with_reducible refine LeO.bind ?_ (fun _ => ?_))
   | exact ih0 _ _ _
   | exact ih1 _ _ _
   | exact LeO.none _
   | refine LeO.ite ?_ ?_
   | refine LeO.bind ?_ (fun _ => ?_)
theorem armadaref01_May.mono : ∀ a0 a1 k, LeO (armadaref01_May.f k a0 a1) (armadaref01_May.f (k + 1) a0 a1) := by
 intro a0 a1 k
 obtain ⟨ih0, ih1⟩ := armadaref01_May.mono_l k
 unfold armadaref01_May.f
 repeat' first
   | (with_reducible exact ih0 _ _ _)
   | (with_reducible exact ih1 _ _ _)
   | (with_reducible exact LeO.refl _)
   | (with_reducible exact LeO.none _)
   | (with_reducible refine LeO.ite ?_ ?_)
   | (with_reducible refine LeO.bind ?_ (fun _ => ?_))
   | exact ih0 _ _ _
   | exact ih1 _ _ _
   | exact LeO.none _
   | refine LeO.ite ?_ ?_
   | refine LeO.bind ?_ (fun _ => ?_)
set_option maxHeartbeats 8000000 in
set_option maxRecDepth 100000 in
theorem armadaref01_May.calls (k : Nat) (A0_0 : Option Addr) (c0_0 : Nat) (l0_0 : List ByteArray) (A0_1 : Option Addr) (c0_1 : Nat) (l0_1 : List (S27)) (r : Bool) (w : World) (hr0_0 : Kd.C Kd.string w A0_0 l0_0.length l0_0) (hc0_0 : l0_0.length ≤ c0_0) (hr0_1 : Kd.C k27 w A0_1 l0_1.length l0_1) (hc0_1 : l0_1.length ≤ c0_1) (h : armadaref01_May.f k l0_0 l0_1 = some r) :
  Calls Try.prog 17 #[.agg #[.slice A0_0 l0_0.length c0_0, .slice A0_1 l0_1.length c0_1]] w fun e w' => e = .returned (.bool r) ∧ Below w.heap.size w w' := by
 have hu25 := Try.underlying25
 have HR0_0 := Aside0.mk hr0_0
 have HC0_0 := Aside0.mk hc0_0
 clear hr0_0 hc0_0
 have HR0_1 := Aside0.mk hr0_1
 have HC0_1 := Aside0.mk hc0_1
 clear hr0_1 hc0_1
 have HB := Aside0.mk (Below.refl w.heap.size w)
 have H : (armadaref01_May.l0 k 0 l0_0 l0_1) = some r := h
 clear h
 have H' := Aside0.mk H
 clear H
 go_enter Try.func17, Try.ntmps17
 go_wp2_with (first | ((with_reducible refine gate_dst (N := 1) rfl ?_); (try (refine gate_guard (by rfl) ?_; dsimp only)); refine box_event ?hg (N := 1) ?hd (cs := #[.slice A0_0 l0_0.length c0_0, .slice A0_1 l0_1.length c0_1]) (t := 25) ?hr ?_; (case hd => rfl); (case hg => rfl); (case hr => first | (go_simp; done) | (go_simp; rfl)); intro gb209 hg w2 hbox hb; have n0_ := Aside0.mk (below_step (by repeat (first | (with_reducible first | exact HB.out | apply yA_ | apply yN_ | apply yD_) | exact HB.out)) hb); have n1_ := Aside0.mk (hbox); have n2_ := Aside0.mk ((by rw [hg]; exact (below_size (by repeat (first | (with_reducible first | exact HB.out | apply yA_ | apply yN_ | apply yD_) | exact HB.out))) : w.heap.size ≤ gb209)); have n3_ := Aside0.mk ((by rw [hg]; exact (below_size (by repeat (first | (with_reducible first | exact HB.out | apply yA_ | apply yN_ | apply yD_) | exact HB.out))) : w.heap.size ≤ gb209)); clear HB; have HB := n0_; have BK209 := n1_; have GW209 := n2_; have GE209 := n3_; clear n0_ n1_ n2_ n3_; clear hb hbox hg))
 repeat (go_quiet (first | ((with_reducible refine gate_dst (N := 1) rfl ?_); (try (refine gate_guard (by rfl) ?_; dsimp only)); refine box_event ?hg (N := 1) ?hd (cs := #[.slice A0_0 l0_0.length c0_0, .slice A0_1 l0_1.length c0_1]) (t := 25) ?hr ?_; (case hd => rfl); (case hg => rfl); (case hr => first | (go_simp; done) | (go_simp; rfl)); intro gb209 hg w2 hbox hb; have n0_ := Aside0.mk (below_step (by repeat (first | (with_reducible first | exact HB.out | apply yA_ | apply yN_ | apply yD_) | exact HB.out)) hb); have n1_ := Aside0.mk (hbox); have n2_ := Aside0.mk ((by rw [hg]; exact (below_size (by repeat (first | (with_reducible first | exact HB.out | apply yA_ | apply yN_ | apply yD_) | exact HB.out))) : w.heap.size ≤ gb209)); have n3_ := Aside0.mk ((by rw [hg]; exact (below_size (by repeat (first | (with_reducible first | exact HB.out | apply yA_ | apply yN_ | apply yD_) | exact HB.out))) : w.heap.size ≤ gb209)); clear HB; have HB := n0_; have BK209 := n1_; have GW209 := n2_; have GE209 := n3_; clear n0_ n1_ n2_ n3_; clear hb hbox hg)); try go_wp2_with (first | ((with_reducible refine gate_dst (N := 1) rfl ?_); (try (refine gate_guard (by rfl) ?_; dsimp only)); refine box_event ?hg (N := 1) ?hd (cs := #[.slice A0_0 l0_0.length c0_0, .slice A0_1 l0_1.length c0_1]) (t := 25) ?hr ?_; (case hd => rfl); (case hg => rfl); (case hr => first | (go_simp; done) | (go_simp; rfl)); intro gb209 hg w2 hbox hb; have n0_ := Aside0.mk (below_step (by repeat (first | (with_reducible first | exact HB.out | apply yA_ | apply yN_ | apply yD_) | exact HB.out)) hb); have n1_ := Aside0.mk (hbox); have n2_ := Aside0.mk ((by rw [hg]; exact (below_size (by repeat (first | (with_reducible first | exact HB.out | apply yA_ | apply yN_ | apply yD_) | exact HB.out))) : w.heap.size ≤ gb209)); have n3_ := Aside0.mk ((by rw [hg]; exact (below_size (by repeat (first | (with_reducible first | exact HB.out | apply yA_ | apply yN_ | apply yD_) | exact HB.out))) : w.heap.size ≤ gb209)); clear HB; have HB := n0_; have BK209 := n1_; have GW209 := n2_; have GE209 := n3_; clear n0_ n1_ n2_ n3_; clear hb hbox hg)))
 go_loopg [3] k (fun kq v3 w' => ∃ (x3_1 : Int), v3 = .int .i64 x3_1 ∧ Aside0 (armadaref01_May.l0 kq x3_1 l0_0 l0_1 = some r) ∧ Aside0 (kq ≤ k) ∧ Aside0 (w'.heap[gb209]? = some (.cells #[(.slice A0_0 l0_0.length c0_0), (.slice A0_1 l0_1.length c0_1)] 25 (0, 0))) ∧ Aside0 (Below w.heap.size w w'))
 case atStart => exact ⟨(0), (by first | rfl | (simp; done) | (simp [*]; done)), H', ⟨Nat.le_refl _⟩, ⟨by (with_reducible repeat (first | apply xN_ | apply xD_ | apply xA_)); exact BK209.out⟩, ⟨by repeat (first | (with_reducible first | exact HB.out | apply yA_ | apply yN_ | apply yD_ | refine yS_ ?_ GE209.out) | exact HB.out)⟩⟩
 case round =>
  clear H'
  (try clear c1); (try clear p2)
  obtain ⟨x3_1, rfl, HA, HK1, BK209, HB⟩ := hrel
  cases gk with
  | zero => exact absurd HA.out (by simp [armadaref01_May.l0])
  | succ k1 =>
   have H := HA.out
   clear HA
   simp only [armadaref01_May.l0] at H
   by_cases c3 : x3_1 < (l0_0.length : Int)
   ·rw [if_pos c3] at H
    have c3b0 : decide (x3_1 < (l0_0.length : Int)) = true := decide_eq_true c3
    clear c3
    by_cases c4 : 0 ≤ x3_1
    ·rw [if_pos c4] at H
     have c4b0 : decide (0 ≤ x3_1) = true := decide_eq_true c4
     clear c4
     by_cases c5 : ((rdOf ByteArray.empty l0_0 x3_1).size : Int) = 32
     ·rw [if_pos c5] at H
      have c5b0 : (((rdOf ByteArray.empty l0_0 x3_1).size : Int) == 32) = true := beq_iff_eq.mpr c5
      have c5b1 : (((rdOf ByteArray.empty l0_0 x3_1).size : Int) != 32) = false := bne_eq_false_iff_eq.mpr c5
      clear c5
      have H' := Aside0.mk H
      clear H
      have hcz6_0 : wr.cell? ⟨gb209, 0, none⟩ = some (.slice A0_0 l0_0.length c0_0) := (xC_ BK209.out 0).trans rfl
      have hcz6_1 : wr.cell? ⟨gb209, 1, none⟩ = some (.slice A0_1 l0_1.length c0_1) := (xC_ BK209.out 1).trans rfl
      have hfz6_0 := xF_ BK209.out 0
      have hfz6_1 := xF_ BK209.out 1
      have p210 : 0 ≤ (x3_1 : Int) := of_decide_eq_true (by first | (with_reducible assumption) | assumption)
      have q210 : x3_1 < (l0_0.length : Int) := of_decide_eq_true (by first | (with_reducible assumption) | assumption)
      obtain ⟨ad210, e210, hx210_0⟩ := Kd.at_string HR0_0.out x3_1 p210 q210
      cases e210
      replace hx210_0 := (HB.out.cell (World.block_lt_of_cell? w _ hx210_0)).trans hx210_0
      replace p210 := eq_true p210
      replace q210 := eq_true q210
      go_wp2
      repeat (go_quiet (fail); try go_wp2)
      go_roundg k1
      case measure => have := HK1.out; omega
      case rel => exact ⟨(wrap64 (x3_1 + 1)), (by first | rfl | (simp; done) | (simp [*]; done)), H', ⟨by have := HK1.out; omega⟩, ⟨by (with_reducible repeat (first | apply xN_ | apply xD_ | apply xA_)); exact BK209.out⟩, ⟨by repeat (first | (with_reducible first | exact HB.out | apply yA_ | apply yN_ | apply yD_ | refine yS_ ?_ GE209.out) | exact HB.out)⟩⟩
     ·rw [if_neg c5] at H
      have c5b0 : (((rdOf ByteArray.empty l0_0 x3_1).size : Int) == 32) = false := beq_eq_false_iff_ne.mpr c5
      have c5b1 : (((rdOf ByteArray.empty l0_0 x3_1).size : Int) != 32) = true := bne_iff_ne.mpr c5
      obtain rfl := Option.some.inj H
      have hcz7_0 : wr.cell? ⟨gb209, 0, none⟩ = some (.slice A0_0 l0_0.length c0_0) := (xC_ BK209.out 0).trans rfl
      have hcz7_1 : wr.cell? ⟨gb209, 1, none⟩ = some (.slice A0_1 l0_1.length c0_1) := (xC_ BK209.out 1).trans rfl
      have hfz7_0 := xF_ BK209.out 0
      have hfz7_1 := xF_ BK209.out 1
      have p210 : 0 ≤ (x3_1 : Int) := of_decide_eq_true (by first | (with_reducible assumption) | assumption)
      have q210 : x3_1 < (l0_0.length : Int) := of_decide_eq_true (by first | (with_reducible assumption) | assumption)
      obtain ⟨ad210, e210, hx210_0⟩ := Kd.at_string HR0_0.out x3_1 p210 q210
      cases e210
      replace hx210_0 := (HB.out.cell (World.block_lt_of_cell? w _ hx210_0)).trans hx210_0
      replace p210 := eq_true p210
      replace q210 := eq_true q210
      go_wp2
      repeat (go_quiet (fail); try go_wp2)
      go_ret
      exact ⟨by first | rfl | (simp [errW_none, errW_some] <;> rfl) | (simp [*, errW_none, errW_some] <;> rfl), by repeat (first | (with_reducible first | exact HB.out | apply yA_ | apply yN_ | apply yD_ | refine yS_ ?_ GE209.out) | exact HB.out)⟩
    ·rw [if_neg c4] at H
     exact absurd H (by simp)
   ·rw [if_neg c3] at H
    have c3b0 : decide (x3_1 < (l0_0.length : Int)) = false := decide_eq_false c3
    clear c3
    have H' := Aside0.mk H
    clear H
    have hcz8_0 : wr.cell? ⟨gb209, 0, none⟩ = some (.slice A0_0 l0_0.length c0_0) := (xC_ BK209.out 0).trans rfl
    have hcz8_1 : wr.cell? ⟨gb209, 1, none⟩ = some (.slice A0_1 l0_1.length c0_1) := (xC_ BK209.out 1).trans rfl
    have hfz8_0 := xF_ BK209.out 0
    have hfz8_1 := xF_ BK209.out 1
    go_wp2
    repeat (go_quiet (fail); try go_wp2)
    go_loopg [4] k1 (fun kq v4 w' => ∃ (x4_2 : Int), v4 = .int .i64 x4_2 ∧ Aside0 (armadaref01_May.l1 kq x4_2 l0_0 l0_1 = some r) ∧ Aside0 (kq ≤ k1) ∧ Aside0 (w'.heap[gb209]? = some (.cells #[(.slice A0_0 l0_0.length c0_0), (.slice A0_1 l0_1.length c0_1)] 25 (0, 0))) ∧ Aside0 (Below w.heap.size w w'))
    case atStart => exact ⟨(0), (by first | rfl | (simp; done) | (simp [*]; done)), H', ⟨Nat.le_refl _⟩, ⟨by (with_reducible repeat (first | apply xN_ | apply xD_ | apply xA_)); exact BK209.out⟩, ⟨by repeat (first | (with_reducible first | exact HB.out | apply yA_ | apply yN_ | apply yD_ | refine yS_ ?_ GE209.out) | exact HB.out)⟩⟩
    case round =>
     clear H'
     (try clear c1); (try clear p2); (try clear q2); (try clear hx2); (try clear c3); (try clear c3b0); (try clear c4); (try clear c4b0); (try clear c5); (try clear c5b0)
     (try clear c5b1); (try clear p6); (try clear hcz6_0); (try clear hcz6_1); (try clear hcz7_0); (try clear hcz7_1); (try clear hcz8_0); (try clear hcz8_1); (try clear hfz6_0)
     (try clear hfz6_1); (try clear hfz7_0); (try clear hfz7_1); (try clear hfz8_0); (try clear hfz8_1); (try clear hx210_0); (try clear p2); (try clear p210); (try clear q210)
     obtain ⟨x4_2, rfl, HA, HK2, BK209, HB⟩ := hrel
     cases gk with
     | zero => exact absurd HA.out (by simp [armadaref01_May.l1])
     | succ k2 =>
      have H := HA.out
      clear HA
      simp only [armadaref01_May.l1] at H
      by_cases c9 : x4_2 < (l0_1.length : Int)
      ·rw [if_pos c9] at H
       have c9b0 : decide (x4_2 < (l0_1.length : Int)) = true := decide_eq_true c9
       clear c9
       by_cases c10 : 0 ≤ x4_2
       ·rw [if_pos c10] at H
        have c10b0 : decide (0 ≤ x4_2) = true := decide_eq_true c10
        clear c10
        by_cases c11 : ((rd_T27 l0_1 x4_2).f0) < 0
        ·rw [if_pos c11] at H
         have c11b0 : decide (((rd_T27 l0_1 x4_2).f0) < 0) = true := decide_eq_true c11
         clear c11
         obtain rfl := Option.some.inj H
         have hcz12_0 : wr.cell? ⟨gb209, 0, none⟩ = some (.slice A0_0 l0_0.length c0_0) := (xC_ BK209.out 0).trans rfl
         have hcz12_1 : wr.cell? ⟨gb209, 1, none⟩ = some (.slice A0_1 l0_1.length c0_1) := (xC_ BK209.out 1).trans rfl
         have hfz12_0 := xF_ BK209.out 0
         have hfz12_1 := xF_ BK209.out 1
         have p211 : 0 ≤ (x4_2 : Int) := of_decide_eq_true (by first | (with_reducible assumption) | assumption)
         have q211 : x4_2 < (l0_1.length : Int) := of_decide_eq_true (by first | (with_reducible assumption) | assumption)
         obtain ⟨ad211, e211, hx211_0, hx211_1⟩ := at_T27 HR0_1.out x4_2 p211 q211
         cases e211
         replace hx211_0 := (HB.out.cell (World.block_lt_of_cell? w _ hx211_0)).trans hx211_0
         replace hx211_1 := (HB.out.cell (World.block_lt_of_cell? w _ hx211_1)).trans hx211_1
         replace p211 := eq_true p211
         replace q211 := eq_true q211
         go_wp2
         repeat (go_quiet (fail); try go_wp2)
         go_ret
         exact ⟨by first | rfl | (simp [errW_none, errW_some] <;> rfl) | (simp [*, errW_none, errW_some] <;> rfl), by repeat (first | (with_reducible first | exact HB.out | apply yA_ | apply yN_ | apply yD_ | refine yS_ ?_ GE209.out) | exact HB.out)⟩
        ·rw [if_neg c11] at H
         have c11b0 : decide (((rd_T27 l0_1 x4_2).f0) < 0) = false := decide_eq_false c11
         clear c11
         by_cases c13 : ((rd_T27 l0_1 x4_2).f0) ≥ (l0_0.length : Int)
         ·rw [if_pos c13] at H
          have c13b0 : decide ((l0_0.length : Int) ≤ ((rd_T27 l0_1 x4_2).f0)) = true := decide_eq_true c13
          clear c13
          obtain rfl := Option.some.inj H
          have hcz14_0 : wr.cell? ⟨gb209, 0, none⟩ = some (.slice A0_0 l0_0.length c0_0) := (xC_ BK209.out 0).trans rfl
          have hcz14_1 : wr.cell? ⟨gb209, 1, none⟩ = some (.slice A0_1 l0_1.length c0_1) := (xC_ BK209.out 1).trans rfl
          have hfz14_0 := xF_ BK209.out 0
          have hfz14_1 := xF_ BK209.out 1
          have p211 : 0 ≤ (x4_2 : Int) := of_decide_eq_true (by first | (with_reducible assumption) | assumption)
          have q211 : x4_2 < (l0_1.length : Int) := of_decide_eq_true (by first | (with_reducible assumption) | assumption)
          obtain ⟨ad211, e211, hx211_0, hx211_1⟩ := at_T27 HR0_1.out x4_2 p211 q211
          cases e211
          replace hx211_0 := (HB.out.cell (World.block_lt_of_cell? w _ hx211_0)).trans hx211_0
          replace hx211_1 := (HB.out.cell (World.block_lt_of_cell? w _ hx211_1)).trans hx211_1
          replace p211 := eq_true p211
          replace q211 := eq_true q211
          have p212 : 0 ≤ (x4_2 : Int) := of_decide_eq_true (by first | (with_reducible assumption) | assumption)
          have q212 : x4_2 < (l0_1.length : Int) := of_decide_eq_true (by first | (with_reducible assumption) | assumption)
          obtain ⟨ad212, e212, hx212_0, hx212_1⟩ := at_T27 HR0_1.out x4_2 p212 q212
          obtain rfl : ad211 = ad212 := (by injection e212)
          replace hx212_0 := (HB.out.cell (World.block_lt_of_cell? w _ hx212_0)).trans hx212_0
          replace hx212_1 := (HB.out.cell (World.block_lt_of_cell? w _ hx212_1)).trans hx212_1
          replace p212 := eq_true p212
          replace q212 := eq_true q212
          go_wp2
          repeat (go_quiet (fail); try go_wp2)
          go_ret
          exact ⟨by first | rfl | (simp [errW_none, errW_some] <;> rfl) | (simp [*, errW_none, errW_some] <;> rfl), by repeat (first | (with_reducible first | exact HB.out | apply yA_ | apply yN_ | apply yD_ | refine yS_ ?_ GE209.out) | exact HB.out)⟩
         ·rw [if_neg c13] at H
          have c13b0 : decide ((l0_0.length : Int) ≤ ((rd_T27 l0_1 x4_2).f0)) = false := decide_eq_false c13
          clear c13
          by_cases c15 : (((rd_T27 l0_1 x4_2).f1).size : Int) = 32
          ·rw [if_pos c15] at H
           have c15b0 : ((((rd_T27 l0_1 x4_2).f1).size : Int) == 32) = true := beq_iff_eq.mpr c15
           have c15b1 : ((((rd_T27 l0_1 x4_2).f1).size : Int) != 32) = false := bne_eq_false_iff_eq.mpr c15
           clear c15
           have H' := Aside0.mk H
           clear H
           have hcz16_0 : wr.cell? ⟨gb209, 0, none⟩ = some (.slice A0_0 l0_0.length c0_0) := (xC_ BK209.out 0).trans rfl
           have hcz16_1 : wr.cell? ⟨gb209, 1, none⟩ = some (.slice A0_1 l0_1.length c0_1) := (xC_ BK209.out 1).trans rfl
           have hfz16_0 := xF_ BK209.out 0
           have hfz16_1 := xF_ BK209.out 1
           have p211 : 0 ≤ (x4_2 : Int) := of_decide_eq_true (by first | (with_reducible assumption) | assumption)
           have q211 : x4_2 < (l0_1.length : Int) := of_decide_eq_true (by first | (with_reducible assumption) | assumption)
           obtain ⟨ad211, e211, hx211_0, hx211_1⟩ := at_T27 HR0_1.out x4_2 p211 q211
           cases e211
           replace hx211_0 := (HB.out.cell (World.block_lt_of_cell? w _ hx211_0)).trans hx211_0
           replace hx211_1 := (HB.out.cell (World.block_lt_of_cell? w _ hx211_1)).trans hx211_1
           replace p211 := eq_true p211
           replace q211 := eq_true q211
           have p212 : 0 ≤ (x4_2 : Int) := of_decide_eq_true (by first | (with_reducible assumption) | assumption)
           have q212 : x4_2 < (l0_1.length : Int) := of_decide_eq_true (by first | (with_reducible assumption) | assumption)
           obtain ⟨ad212, e212, hx212_0, hx212_1⟩ := at_T27 HR0_1.out x4_2 p212 q212
           obtain rfl : ad211 = ad212 := (by injection e212)
           replace hx212_0 := (HB.out.cell (World.block_lt_of_cell? w _ hx212_0)).trans hx212_0
           replace hx212_1 := (HB.out.cell (World.block_lt_of_cell? w _ hx212_1)).trans hx212_1
           replace p212 := eq_true p212
           replace q212 := eq_true q212
           have p213 : 0 ≤ (x4_2 : Int) := of_decide_eq_true (by first | (with_reducible assumption) | assumption)
           have q213 : x4_2 < (l0_1.length : Int) := of_decide_eq_true (by first | (with_reducible assumption) | assumption)
           obtain ⟨ad213, e213, hx213_0, hx213_1⟩ := at_T27 HR0_1.out x4_2 p213 q213
           obtain rfl : ad211 = ad213 := (by injection e213)
           replace hx213_0 := (HB.out.cell (World.block_lt_of_cell? w _ hx213_0)).trans hx213_0
           replace hx213_1 := (HB.out.cell (World.block_lt_of_cell? w _ hx213_1)).trans hx213_1
           replace p213 := eq_true p213
           replace q213 := eq_true q213
           go_wp2
           repeat (go_quiet (fail); try go_wp2)
           go_roundg k2
           case measure => have := HK1.out; have := HK2.out; omega
           case rel => exact ⟨(wrap64 (x4_2 + 1)), (by first | rfl | (simp; done) | (simp [*]; done)), H', ⟨by have := HK1.out; have := HK2.out; omega⟩, ⟨by (with_reducible repeat (first | apply xN_ | apply xD_ | apply xA_)); exact BK209.out⟩, ⟨by repeat (first | (with_reducible first | exact HB.out | apply yA_ | apply yN_ | apply yD_ | refine yS_ ?_ GE209.out) | exact HB.out)⟩⟩
          ·rw [if_neg c15] at H
           have c15b0 : ((((rd_T27 l0_1 x4_2).f1).size : Int) == 32) = false := beq_eq_false_iff_ne.mpr c15
           have c15b1 : ((((rd_T27 l0_1 x4_2).f1).size : Int) != 32) = true := bne_iff_ne.mpr c15
           obtain rfl := Option.some.inj H
           have hcz17_0 : wr.cell? ⟨gb209, 0, none⟩ = some (.slice A0_0 l0_0.length c0_0) := (xC_ BK209.out 0).trans rfl
           have hcz17_1 : wr.cell? ⟨gb209, 1, none⟩ = some (.slice A0_1 l0_1.length c0_1) := (xC_ BK209.out 1).trans rfl
           have hfz17_0 := xF_ BK209.out 0
           have hfz17_1 := xF_ BK209.out 1
           have p211 : 0 ≤ (x4_2 : Int) := of_decide_eq_true (by first | (with_reducible assumption) | assumption)
           have q211 : x4_2 < (l0_1.length : Int) := of_decide_eq_true (by first | (with_reducible assumption) | assumption)
           obtain ⟨ad211, e211, hx211_0, hx211_1⟩ := at_T27 HR0_1.out x4_2 p211 q211
           cases e211
           replace hx211_0 := (HB.out.cell (World.block_lt_of_cell? w _ hx211_0)).trans hx211_0
           replace hx211_1 := (HB.out.cell (World.block_lt_of_cell? w _ hx211_1)).trans hx211_1
           replace p211 := eq_true p211
           replace q211 := eq_true q211
           have p212 : 0 ≤ (x4_2 : Int) := of_decide_eq_true (by first | (with_reducible assumption) | assumption)
           have q212 : x4_2 < (l0_1.length : Int) := of_decide_eq_true (by first | (with_reducible assumption) | assumption)
           obtain ⟨ad212, e212, hx212_0, hx212_1⟩ := at_T27 HR0_1.out x4_2 p212 q212
           obtain rfl : ad211 = ad212 := (by injection e212)
           replace hx212_0 := (HB.out.cell (World.block_lt_of_cell? w _ hx212_0)).trans hx212_0
           replace hx212_1 := (HB.out.cell (World.block_lt_of_cell? w _ hx212_1)).trans hx212_1
           replace p212 := eq_true p212
           replace q212 := eq_true q212
           have p213 : 0 ≤ (x4_2 : Int) := of_decide_eq_true (by first | (with_reducible assumption) | assumption)
           have q213 : x4_2 < (l0_1.length : Int) := of_decide_eq_true (by first | (with_reducible assumption) | assumption)
           obtain ⟨ad213, e213, hx213_0, hx213_1⟩ := at_T27 HR0_1.out x4_2 p213 q213
           obtain rfl : ad211 = ad213 := (by injection e213)
           replace hx213_0 := (HB.out.cell (World.block_lt_of_cell? w _ hx213_0)).trans hx213_0
           replace hx213_1 := (HB.out.cell (World.block_lt_of_cell? w _ hx213_1)).trans hx213_1
           replace p213 := eq_true p213
           replace q213 := eq_true q213
           go_wp2
           repeat (go_quiet (fail); try go_wp2)
           go_ret
           exact ⟨by first | rfl | (simp [errW_none, errW_some] <;> rfl) | (simp [*, errW_none, errW_some] <;> rfl), by repeat (first | (with_reducible first | exact HB.out | apply yA_ | apply yN_ | apply yD_ | refine yS_ ?_ GE209.out) | exact HB.out)⟩
       ·rw [if_neg c10] at H
        exact absurd H (by simp)
      ·rw [if_neg c9] at H
       have c9b0 : decide (x4_2 < (l0_1.length : Int)) = false := decide_eq_false c9
       clear c9
       by_cases c18 : (l0_0.length : Int) ≥ 1
       ·rw [if_pos c18] at H
        have c18b0 : decide (1 ≤ (l0_0.length : Int)) = true := decide_eq_true c18
        have c18b1 : decide (1 ≤ l0_0.length) = true := decide_eq_true (by omega)
        clear c18
        obtain rfl := Option.some.inj H
        have hcz19_0 : wr.cell? ⟨gb209, 0, none⟩ = some (.slice A0_0 l0_0.length c0_0) := (xC_ BK209.out 0).trans rfl
        have hcz19_1 : wr.cell? ⟨gb209, 1, none⟩ = some (.slice A0_1 l0_1.length c0_1) := (xC_ BK209.out 1).trans rfl
        have hfz19_0 := xF_ BK209.out 0
        have hfz19_1 := xF_ BK209.out 1
        go_wp2
        repeat (go_quiet (fail); try go_wp2)
        go_ret
        exact ⟨by first | rfl | (simp [errW_none, errW_some] <;> rfl) | (simp [*, errW_none, errW_some] <;> rfl), by repeat (first | (with_reducible first | exact HB.out | apply yA_ | apply yN_ | apply yD_ | refine yS_ ?_ GE209.out) | exact HB.out)⟩
       ·rw [if_neg c18] at H
        have c18b0 : decide (1 ≤ (l0_0.length : Int)) = false := decide_eq_false c18
        have c18b1 : decide (1 ≤ l0_0.length) = false := decide_eq_false (by omega)
        clear c18
        obtain rfl := Option.some.inj H
        have hcz20_0 : wr.cell? ⟨gb209, 0, none⟩ = some (.slice A0_0 l0_0.length c0_0) := (xC_ BK209.out 0).trans rfl
        have hcz20_1 : wr.cell? ⟨gb209, 1, none⟩ = some (.slice A0_1 l0_1.length c0_1) := (xC_ BK209.out 1).trans rfl
        have hfz20_0 := xF_ BK209.out 0
        have hfz20_1 := xF_ BK209.out 1
        go_wp2
        repeat (go_quiet (fail); try go_wp2)
        go_ret
        exact ⟨by first | rfl | (simp [errW_none, errW_some] <;> rfl) | (simp [*, errW_none, errW_some] <;> rfl), by repeat (first | (with_reducible first | exact HB.out | apply yA_ | apply yN_ | apply yD_ | refine yS_ ?_ GE209.out) | exact HB.out)⟩
def armadaref01_fill.l0 : Nat → ByteArray → Option (ByteArray)
 | 0, _ => none
 | k + 1, x0 => if (x0.size : Int) < 32 then (if x0.size + 1 ≤ 9223372036854775807 then (armadaref01_fill.l0 k (x0 ++ (⟨#[0]⟩ : ByteArray))) else (none)) else (some x0)
def armadaref01_fill.f (k : Nat) (a0 : ByteArray) : Option (ByteArray) := armadaref01_fill.l0 k a0
theorem armadaref01_fill.mono_l : ∀ k, (∀ y0, LeO (armadaref01_fill.l0 k y0) (armadaref01_fill.l0 (k + 1) y0))
 | 0 => fun _ r h => by simp [armadaref01_fill.l0] at h
 | k + 1 => by
  have ih0 := armadaref01_fill.mono_l k
  ·intro y0
   unfold armadaref01_fill.l0
   repeat' first
   | (with_reducible exact ih0 _)
   | (with_reducible exact LeO.refl _)
   | (with_reducible exact LeO.none _)
   | (with_reducible refine LeO.ite ?_ ?_)
   | (with_reducible refine LeO.bind ?_ (fun _ => ?_))
   | exact ih0 _
   | exact LeO.none _
   | refine LeO.ite ?_ ?_
   | refine LeO.bind ?_ (fun _ => ?_)
theorem armadaref01_fill.mono : ∀ a0 k, LeO (armadaref01_fill.f k a0) (armadaref01_fill.f (k + 1) a0) := by
 intro a0 k
 have ih0 := armadaref01_fill.mono_l k
 unfold armadaref01_fill.f
 repeat' first
   | (with_reducible exact ih0 _)
   | (with_reducible exact LeO.refl _)
   | (with_reducible exact LeO.none _)
   | (with_reducible refine LeO.ite ?_ ?_)
   | (with_reducible refine LeO.bind ?_ (fun _ => ?_))
   | exact ih0 _
   | exact LeO.none _
   | refine LeO.ite ?_ ?_
   | refine LeO.bind ?_ (fun _ => ?_)
set_option maxHeartbeats 8000000 in
set_option maxRecDepth 100000 in
theorem armadaref01_fill.calls (k : Nat) (a0 : ByteArray) (r : ByteArray) (w : World) (h : armadaref01_fill.f k a0 = some r) :
  Calls Try.prog 30 #[.string a0] w fun e w' => e = .returned (.string r) ∧ Drawn0 w w' := by
 have H : (armadaref01_fill.l0 k a0) = some r := h
 clear h
 have H' := Aside0.mk H
 clear H
 go_enter Try.func30, Try.ntmps30
 go_wp2
 go_loopg [0] k (fun kq v0 w' => ∃ (x0_1 : ByteArray), v0 = .string x0_1 ∧ Aside0 (armadaref01_fill.l0 kq x0_1 = some r) ∧ Aside0 (kq ≤ k) ∧ Drawn0 w w')
 case atStart => exact ⟨(a0), (by first | rfl | (simp; done) | (simp [*]; done)), H', ⟨Nat.le_refl _⟩, by repeat (first | exact Drawn0.refl _ | apply Drawn0.step)⟩
 case round =>
  clear H'
  obtain ⟨x0_1, rfl, HA, HK1, ⟨m1, rfl⟩⟩ := hrel
  cases gk with
  | zero => exact absurd HA.out (by simp [armadaref01_fill.l0])
  | succ k1 =>
   have H := HA.out
   clear HA
   simp only [armadaref01_fill.l0] at H
   by_cases c2 : (x0_1.size : Int) < 32
   ·rw [if_pos c2] at H
    have c2b0 : decide ((x0_1.size : Int) < 32) = true := decide_eq_true c2
    have c2b1 : decide (x0_1.size < 32) = true := decide_eq_true (by omega)
    clear c2
    by_cases c3 : x0_1.size + 1 ≤ 9223372036854775807
    ·rw [if_pos c3] at H
     have c3b0 := eq_true c3
     have c3b1 : decide (x0_1.size + 1 ≤ 9223372036854775807) = true := decide_eq_true c3
     try have c3b2 : (9223372036854775807 < x0_1.size + 1) = False := eq_false (Nat.not_lt.2 c3)
     have H' := Aside0.mk H
     clear H
     go_wp2
     go_roundg k1
     case measure => have := HK1.out; omega
     case rel => exact ⟨(x0_1 ++ (⟨#[0]⟩ : ByteArray)), (by first | rfl | (simp; done) | (simp [*]; done)), H', ⟨by have := HK1.out; omega⟩, by repeat (first | exact Drawn0.refl _ | apply Drawn0.step)⟩
    ·rw [if_neg c3] at H
     exact absurd H (by simp)
   ·rw [if_neg c2] at H
    have c2b0 : decide ((x0_1.size : Int) < 32) = false := decide_eq_false c2
    have c2b1 : decide (x0_1.size < 32) = false := decide_eq_false (by omega)
    clear c2
    obtain rfl := Option.some.inj H
    go_wp2
    go_ret
    exact ⟨by first | rfl | (simp; done) | (simp [*]; done), by repeat (first | exact Drawn0.refl _ | apply Drawn0.step)⟩
def armadaref01_Put.j0 : Nat → Int → ByteArray → Bool → List ByteArray → List (S27) → Option (List ByteArray × (List (S27)) × Int)
 | 0, _, _, _, _, _ => none
 | k + 1, x1, x2, x22, x215000, x215001 => if x22 = true then (some (x215000, x215001, 1)) else (if (x2.size : Int) > 32 then (some (x215000, x215001, 2)) else ((some (([] : List (S27)) : List (S27))).bind fun y217 => (if y217.length + x215001.length < 5864062014805 then ((some (y217 ++ x215001 : List (S27))).bind fun y220 => ((armadaref01_fill.f k x2).bind fun t223 => (if y220.length < 5864062014805 then (some (x215000, (y220 ++ [(⟨x1, t223⟩ : S27)]), 0)) else (none)))) else (none))))
def armadaref01_Put.f (k : Nat) (l0_0 : List ByteArray) (l0_1 : List (S27)) (a1 : Int) (a2 : ByteArray) : Option (List ByteArray × (List (S27)) × Int) := (armadaref01_May.f k l0_0 l0_1).bind fun t216 => (if t216 = true then (if a1 < 0 then (armadaref01_Put.j0 k a1 a2 true l0_0 l0_1) else (armadaref01_Put.j0 k a1 a2 (decide (a1 ≥ (l0_0.length : Int))) l0_0 l0_1)) else (armadaref01_Put.j0 k a1 a2 true l0_0 l0_1))
theorem armadaref01_Put.mono_l : ∀ k, (∀ y0 y1 y2 y3 y4, LeO (armadaref01_Put.j0 k y0 y1 y2 y3 y4) (armadaref01_Put.j0 (k + 1) y0 y1 y2 y3 y4))
 | 0 => fun _ _ _ _ _ r h => by simp [armadaref01_Put.j0] at h
 | k + 1 => by
  have ih0 := armadaref01_Put.mono_l k
  ·intro y0 y1 y2 y3 y4
   unfold armadaref01_Put.j0
   repeat' first
   | (with_reducible exact ih0 _ _ _ _ _)
   | (with_reducible exact armadaref01_May.mono _ _ _)
   | (with_reducible exact armadaref01_fill.mono _ _)
   | (with_reducible exact LeO.refl _)
   | (with_reducible exact LeO.none _)
   | (with_reducible refine LeO.ite ?_ ?_)
   | (with_reducible refine LeO.bind ?_ (fun _ => ?_))
   | exact ih0 _ _ _ _ _
   | exact armadaref01_May.mono _ _ _
   | exact armadaref01_fill.mono _ _
   | exact LeO.none _
   | refine LeO.ite ?_ ?_
   | refine LeO.bind ?_ (fun _ => ?_)
theorem armadaref01_Put.mono : ∀ a0 a1 a2 a3 k, LeO (armadaref01_Put.f k a0 a1 a2 a3) (armadaref01_Put.f (k + 1) a0 a1 a2 a3) := by
 intro a0 a1 a2 a3 k
 have ih0 := armadaref01_Put.mono_l k
 unfold armadaref01_Put.f
 repeat' first
   | (with_reducible exact ih0 _ _ _ _ _)
   | (with_reducible exact armadaref01_May.mono _ _ _)
   | (with_reducible exact armadaref01_fill.mono _ _)
   | (with_reducible exact LeO.refl _)
   | (with_reducible exact LeO.none _)
   | (with_reducible refine LeO.ite ?_ ?_)
   | (with_reducible refine LeO.bind ?_ (fun _ => ?_))
   | exact ih0 _ _ _ _ _
   | exact armadaref01_May.mono _ _ _
   | exact armadaref01_fill.mono _ _
   | exact LeO.none _
   | refine LeO.ite ?_ ?_
   | refine LeO.bind ?_ (fun _ => ?_)
set_option maxHeartbeats 8000000 in
set_option maxRecDepth 100000 in
theorem armadaref01_Put.calls (k : Nat) (P0_0_ : Nat → Prop) (A0_0 : Option Addr) (c0_0 : Nat) (l0_0 : List ByteArray) (P0_1_ : Nat → Prop) (A0_1 : Option Addr) (c0_1 : Nat) (l0_1 : List (S27)) (a1 : Int) (a2 : ByteArray) (r1 : List ByteArray) (r2 : List (S27)) (r3 : Int) (w : World) (hs0_0 : Kd.V Kd.string 9 w w.heap.size (fun k_ => P0_0_ k_) (.slice A0_0 l0_0.length c0_0) l0_0) (hs0_1 : Kd.V k27 27 w w.heap.size (fun k_ => P0_1_ k_) (.slice A0_1 l0_1.length c0_1) l0_1) (h : armadaref01_Put.f k l0_0 l0_1 a1 a2 = some (r1, r2, r3)) :
  Calls Try.prog 12 #[.agg #[.slice A0_0 l0_0.length c0_0, .slice A0_1 l0_1.length c0_1], .int .i64 a1, .string a2] w fun e w' => ∃ v0_ v1_ : Value, e = .returned (.tuple #[.agg #[v0_, v1_], .int .i64 r3]) ∧ Kd.V Kd.string 9 w' w.heap.size (fun k_ => ((P0_0_ k_ ∨ P0_1_ k_) ∨ w.heap.size ≤ k_)) v0_ r1 ∧ Kd.V k27 27 w' w.heap.size (fun k_ => ((P0_0_ k_ ∨ P0_1_ k_) ∨ w.heap.size ≤ k_)) v1_ r2 ∧ Below w.heap.size w w' := by
 have hu25 := Try.underlying25
 have hu27 := Try.underlying27
 have HO0_0 := Aside0.mk (show Kd.V Kd.string 9 w w.heap.size (fun k_ => ((P0_0_ k_ ∨ P0_1_ k_) ∨ w.heap.size ≤ k_)) (.slice A0_0 l0_0.length c0_0) l0_0 from Kd.V_mono hs0_0 (fun k_ hk => .inl (.inl hk)))
 have HO0_1 := Aside0.mk (show Kd.V k27 27 w w.heap.size (fun k_ => ((P0_0_ k_ ∨ P0_1_ k_) ∨ w.heap.size ≤ k_)) (.slice A0_1 l0_1.length c0_1) l0_1 from Kd.V_mono hs0_1 (fun k_ hk => .inl (.inr hk)))
 have HB := Aside0.mk (Below.refl w.heap.size w)
 have H : ((armadaref01_May.f k l0_0 l0_1).bind fun t216 => (if t216 = true then (if a1 < 0 then (armadaref01_Put.j0 k a1 a2 true l0_0 l0_1) else (armadaref01_Put.j0 k a1 a2 (decide (a1 ≥ (l0_0.length : Int))) l0_0 l0_1)) else (armadaref01_Put.j0 k a1 a2 true l0_0 l0_1))) = some (r1, r2, r3) := h
 clear h
 have HC4 := Aside0.mk H
 clear H
 go_enter Try.func12, Try.ntmps12
 go_upto_region 1 with (first | ((with_reducible refine gate_dst (N := 3) rfl ?_); (try (refine gate_guard (by rfl) ?_; dsimp only)); refine box_event ?hg (N := 3) ?hd (cs := #[.slice A0_0 l0_0.length c0_0, .slice A0_1 l0_1.length c0_1]) (t := 25) ?hr ?_; (case hd => rfl); (case hg => rfl); (case hr => first | (go_simp; done) | (go_simp; rfl)); intro gb214 hg w5 hbox hb; have n0_ := Aside0.mk (Kd.V_below (Kd.V_elderB (by (with_reducible repeat (first | apply Kd.V_alloc | apply Kd.V_drewN | apply Kd.V_drew)); exact HO0_0.out) gb214 (Nat.le_of_eq hg.symm)) hb); have n1_ := Aside0.mk (Kd.V_below (Kd.V_elderB (by (with_reducible repeat (first | apply Kd.V_alloc | apply Kd.V_drewN | apply Kd.V_drew)); exact HO0_1.out) gb214 (Nat.le_of_eq hg.symm)) hb); have n2_ := Aside0.mk (below_step (by repeat (first | (with_reducible first | exact HB.out | apply yA_ | apply yN_ | apply yD_) | exact HB.out)) hb); have n3_ := Aside0.mk (hbox); have n4_ := Aside0.mk ((by rw [hg]; exact (below_size (by repeat (first | (with_reducible first | exact HB.out | apply yA_ | apply yN_ | apply yD_) | exact HB.out))) : w.heap.size ≤ gb214)); have n5_ := Aside0.mk ((by rw [hg]; exact (below_size (by repeat (first | (with_reducible first | exact HB.out | apply yA_ | apply yN_ | apply yD_) | exact HB.out))) : w.heap.size ≤ gb214)); clear HO0_0; clear HO0_1; clear HB; have HO0_0 := n0_; have HO0_1 := n1_; have HB := n2_; have BK214 := n3_; have GW214 := n4_; have GE214 := n5_; clear n0_ n1_ n2_ n3_ n4_ n5_; clear hb hbox hg) | ((with_reducible refine gate_dst (N := 6) rfl ?_); (try (refine gate_guard (by rfl) ?_; dsimp only)); refine box_event ?hg (N := 6) ?hd (cs := #[.slice none 0 0, .slice none 0 0]) (t := 25) ?hr ?_; (case hd => rfl); (case hg => rfl); (case hr => first | (go_simp; done) | (go_simp; rfl)); intro gb215 hg w6 hbox hb; have n0_ := Aside0.mk (Kd.V_below (Kd.V_elderB (by (with_reducible repeat (first | apply Kd.V_alloc | apply Kd.V_drewN | apply Kd.V_drew)); exact HO0_0.out) gb215 (Nat.le_of_eq hg.symm)) hb); have n1_ := Aside0.mk (Kd.V_below (Kd.V_elderB (by (with_reducible repeat (first | apply Kd.V_alloc | apply Kd.V_drewN | apply Kd.V_drew)); exact HO0_1.out) gb215 (Nat.le_of_eq hg.symm)) hb); have n2_ := Aside0.mk (blk_below (g := gb214) (o := .cells #[.slice A0_0 l0_0.length c0_0, .slice A0_1 l0_1.length c0_1] 25 (0, 0)) (by (with_reducible repeat (first | apply xN_ | apply xD_ | apply xA_)); exact BK214.out) hb); have n3_ := Aside0.mk (below_step (by repeat (first | (with_reducible first | exact HB.out | apply yA_ | apply yN_ | apply yD_ | refine yS_ ?_ GE214.out) | exact HB.out)) hb); have n4_ := Aside0.mk (hbox); have n5_ := Aside0.mk ((by rw [hg]; exact (below_size (by repeat (first | (with_reducible first | exact HB.out | apply yA_ | apply yN_ | apply yD_ | refine yS_ ?_ GE214.out) | exact HB.out))) : w.heap.size ≤ gb215)); have n6_ := Aside0.mk ((by rw [hg]; exact (below_size (by repeat (first | (with_reducible first | exact HB.out | apply yA_ | apply yN_ | apply yD_ | refine yS_ ?_ GE214.out) | exact HB.out))) : w.heap.size ≤ gb215)); have n7_ := Aside0.mk ((by rw [hg]; exact Nat.ne_of_lt (blk_lt (g := gb214) (o := .cells #[.slice A0_0 l0_0.length c0_0, .slice A0_1 l0_1.length c0_1] 25 (0, 0)) (by (with_reducible repeat (first | apply xN_ | apply xD_ | apply xA_)); exact BK214.out)) : gb214 ≠ gb215)); have n8_ := Aside0.mk ((by rw [hg]; exact Nat.ne_of_gt (blk_lt (g := gb214) (o := .cells #[.slice A0_0 l0_0.length c0_0, .slice A0_1 l0_1.length c0_1] 25 (0, 0)) (by (with_reducible repeat (first | apply xN_ | apply xD_ | apply xA_)); exact BK214.out)) : gb215 ≠ gb214)); clear HO0_0; clear HO0_1; clear BK214; clear HB; have HO0_0 := n0_; have HO0_1 := n1_; have BK214 := n2_; have HB := n3_; have BK215 := n4_; have GW215 := n5_; have GE215 := n6_; have NB214_215 := n7_; have NB215_214 := n8_; clear n0_ n1_ n2_ n3_ n4_ n5_ n6_ n7_ n8_; clear hb hbox hg))
 (try simp only [Act.put, List.setIfInBounds_toArray, List.set_cons_zero, List.set_cons_succ])
 go_cut [22] (fun v22 wc => ∃ (kq : Nat) (x22_3 : Bool), v22 = .bool x22_3 ∧ Aside0 (armadaref01_Put.j0 kq a1 a2 x22_3 l0_0 l0_1 = some (r1, r2, r3)) ∧ Aside0 (kq ≤ k) ∧ Aside0 (Kd.V Kd.string 9 wc w.heap.size (fun k_ => ((P0_0_ k_ ∨ P0_1_ k_) ∨ w.heap.size ≤ k_) ∧ k_ ≠ gb214 ∧ k_ ≠ gb215) (.slice A0_0 l0_0.length c0_0) l0_0) ∧ Aside0 (Kd.V k27 27 wc w.heap.size (fun k_ => ((P0_0_ k_ ∨ P0_1_ k_) ∨ w.heap.size ≤ k_) ∧ k_ ≠ gb214 ∧ k_ ≠ gb215) (.slice A0_1 l0_1.length c0_1) l0_1) ∧ Aside0 (wc.heap[gb214]? = some (.cells #[(.slice A0_0 l0_0.length c0_0), (.slice A0_1 l0_1.length c0_1)] 25 (0, 0))) ∧ Aside0 (wc.heap[gb215]? = some (.cells #[(.slice none 0 0), (.slice none 0 0)] 25 (0, 0))) ∧ Aside0 (Below w.heap.size w wc))
 case first =>
  have H := HC4.out
  clear HC4
  replace H := Option.bind_eq_some_iff.mp H
  obtain ⟨t216, A70, H⟩ := H
  replace H : (if t216 = true then (if a1 < 0 then (armadaref01_Put.j0 k a1 a2 true l0_0 l0_1) else (armadaref01_Put.j0 k a1 a2 (decide (a1 ≥ (l0_0.length : Int))) l0_0 l0_1)) else (armadaref01_Put.j0 k a1 a2 true l0_0 l0_1)) = some (r1, r2, r3) := H
  have A7 := Aside0.mk A70
  clear A70
  by_cases c8 : t216 = true
  ·subst c8
   have H1 : (if a1 < 0 then (armadaref01_Put.j0 k a1 a2 true l0_0 l0_1) else (armadaref01_Put.j0 k a1 a2 (decide (a1 ≥ (l0_0.length : Int))) l0_0 l0_1)) = some (r1, r2, r3) := by rw [if_pos rfl] at H; exact H
   clear H
   have H := H1
   clear H1
   by_cases c9 : a1 < 0
   ·rw [if_pos c9] at H
    have c9b0 : decide (a1 < 0) = true := decide_eq_true c9
    clear c9
    (first | rw [c9b0] | (simp only [i64_w, i32_w]; rw [c9b0]) | skip)
    have H' := Aside0.mk H
    clear H
    have hnb10 := NB214_215.out
    have hnc10 := NB215_214.out
    have hcz11_0 : w6.cell? ⟨gb214, 0, none⟩ = some (.slice A0_0 l0_0.length c0_0) := (xC_ BK214.out 0).trans rfl
    have hcz11_1 : w6.cell? ⟨gb214, 1, none⟩ = some (.slice A0_1 l0_1.length c0_1) := (xC_ BK214.out 1).trans rfl
    have hfz11_0 := xF_ BK214.out 0
    have hfz11_1 := xF_ BK214.out 1
    go_wp2_with (first | ((with_reducible refine gate_callee (f := 17) rfl ?_); refine goesL_ (some 10) rfl rfl Try.func17 (by kernel_rfl) rfl #[.agg #[.slice A0_0 l0_0.length c0_0, .slice A0_1 l0_1.length c0_1]] rfl (by (try simp only [List.map_toArray, List.map_cons, List.map_nil]); first | done | rfl) ?_; (with_reducible refine (armadaref01_May.calls k _ _ l0_0 _ _ l0_1 true _ ?side1 ?side2 ?side3 ?side4 A7.out).mono ?_); (case side1 => repeat (first | exact (Kd.V_reads' HO0_0.out).2.2 | (with_reducible refine Kd.C_alloc ?_ _) | (with_reducible refine Kd.C_drewN ?_ _) | (with_reducible refine Kd.C_drew ?_))); (case side2 => exact (Kd.V_reads' HO0_0.out).2.1); (case side3 => repeat (first | exact (Kd.V_reads' HO0_1.out).2.2 | (with_reducible refine Kd.C_alloc ?_ _) | (with_reducible refine Kd.C_drewN ?_ _) | (with_reducible refine Kd.C_drew ?_))); (case side4 => exact (Kd.V_reads' HO0_1.out).2.1); rintro e w12 ⟨rfl, hb⟩; refine ⟨_, rfl, ?_⟩; have n0_ := Aside0.mk (Kd.V_below (by (with_reducible repeat (first | apply Kd.V_alloc | apply Kd.V_drewN | apply Kd.V_drew)); exact HO0_0.out) hb); have n1_ := Aside0.mk (Kd.V_below (by (with_reducible repeat (first | apply Kd.V_alloc | apply Kd.V_drewN | apply Kd.V_drew)); exact HO0_1.out) hb); have n2_ := Aside0.mk (blk_below (g := gb214) (o := .cells #[.slice A0_0 l0_0.length c0_0, .slice A0_1 l0_1.length c0_1] 25 (0, 0)) (by (with_reducible repeat (first | apply xN_ | apply xD_ | apply xA_)); exact BK214.out) hb); have n3_ := Aside0.mk (blk_below (g := gb215) (o := .cells #[.slice none 0 0, .slice none 0 0] 25 (0, 0)) (by (with_reducible repeat (first | apply xN_ | apply xD_ | apply xA_)); exact BK215.out) hb); have n4_ := Aside0.mk (below_step (by repeat (first | (with_reducible first | exact HB.out | apply yA_ | apply yN_ | apply yD_ | refine yS_ ?_ GE214.out | refine yS_ ?_ GE215.out) | exact HB.out)) hb); clear HO0_0; clear HO0_1; clear BK214; clear BK215; clear HB; have HO0_0 := n0_; have HO0_1 := n1_; have BK214 := n2_; have BK215 := n3_; have HB := n4_; clear n0_ n1_ n2_ n3_ n4_; (try clear hb); (try clear hb2); (try clear hk); (try clear hi)))
    go_meet
    case rel => exact ⟨_, (true), (by first | rfl | (simp; done) | (simp [*]; done)), H', ⟨by first | omega | exact Nat.le_refl _⟩, ⟨by (with_reducible repeat (first | apply Kd.V_alloc | apply Kd.V_drewN | apply Kd.V_drew)); exact Kd.V_mono HO0_0.out (fun _ hk => ⟨hk.1.1, ⟨hk.1.2, hk.2⟩⟩)⟩, ⟨by (with_reducible repeat (first | apply Kd.V_alloc | apply Kd.V_drewN | apply Kd.V_drew)); exact Kd.V_mono HO0_1.out (fun _ hk => ⟨hk.1.1, ⟨hk.1.2, hk.2⟩⟩)⟩, ⟨by (with_reducible repeat (first | apply xN_ | apply xD_ | apply xA_)); exact BK214.out⟩, ⟨by (with_reducible repeat (first | apply xN_ | apply xD_ | apply xA_)); exact BK215.out⟩, ⟨by repeat (first | (with_reducible first | exact HB.out | apply yA_ | apply yN_ | apply yD_ | refine yS_ ?_ GE214.out | refine yS_ ?_ GE215.out) | exact HB.out)⟩⟩
   ·rw [if_neg c9] at H
    have c9b0 : decide (a1 < 0) = false := decide_eq_false c9
    clear c9
    (first | rw [c9b0] | (simp only [i64_w, i32_w]; rw [c9b0]) | skip)
    have H' := Aside0.mk H
    clear H
    have hnb13 := NB214_215.out
    have hnc13 := NB215_214.out
    have hcz14_0 : w6.cell? ⟨gb214, 0, none⟩ = some (.slice A0_0 l0_0.length c0_0) := (xC_ BK214.out 0).trans rfl
    have hcz14_1 : w6.cell? ⟨gb214, 1, none⟩ = some (.slice A0_1 l0_1.length c0_1) := (xC_ BK214.out 1).trans rfl
    have hfz14_0 := xF_ BK214.out 0
    have hfz14_1 := xF_ BK214.out 1
    go_wp2_with (first | ((with_reducible refine gate_callee (f := 17) rfl ?_); refine goesL_ (some 10) rfl rfl Try.func17 (by kernel_rfl) rfl #[.agg #[.slice A0_0 l0_0.length c0_0, .slice A0_1 l0_1.length c0_1]] rfl (by (try simp only [List.map_toArray, List.map_cons, List.map_nil]); first | done | rfl) ?_; (with_reducible refine (armadaref01_May.calls k _ _ l0_0 _ _ l0_1 true _ ?side1 ?side2 ?side3 ?side4 A7.out).mono ?_); (case side1 => repeat (first | exact (Kd.V_reads' HO0_0.out).2.2 | (with_reducible refine Kd.C_alloc ?_ _) | (with_reducible refine Kd.C_drewN ?_ _) | (with_reducible refine Kd.C_drew ?_))); (case side2 => exact (Kd.V_reads' HO0_0.out).2.1); (case side3 => repeat (first | exact (Kd.V_reads' HO0_1.out).2.2 | (with_reducible refine Kd.C_alloc ?_ _) | (with_reducible refine Kd.C_drewN ?_ _) | (with_reducible refine Kd.C_drew ?_))); (case side4 => exact (Kd.V_reads' HO0_1.out).2.1); rintro e w15 ⟨rfl, hb⟩; refine ⟨_, rfl, ?_⟩; have n0_ := Aside0.mk (Kd.V_below (by (with_reducible repeat (first | apply Kd.V_alloc | apply Kd.V_drewN | apply Kd.V_drew)); exact HO0_0.out) hb); have n1_ := Aside0.mk (Kd.V_below (by (with_reducible repeat (first | apply Kd.V_alloc | apply Kd.V_drewN | apply Kd.V_drew)); exact HO0_1.out) hb); have n2_ := Aside0.mk (blk_below (g := gb214) (o := .cells #[.slice A0_0 l0_0.length c0_0, .slice A0_1 l0_1.length c0_1] 25 (0, 0)) (by (with_reducible repeat (first | apply xN_ | apply xD_ | apply xA_)); exact BK214.out) hb); have n3_ := Aside0.mk (blk_below (g := gb215) (o := .cells #[.slice none 0 0, .slice none 0 0] 25 (0, 0)) (by (with_reducible repeat (first | apply xN_ | apply xD_ | apply xA_)); exact BK215.out) hb); have n4_ := Aside0.mk (below_step (by repeat (first | (with_reducible first | exact HB.out | apply yA_ | apply yN_ | apply yD_ | refine yS_ ?_ GE214.out | refine yS_ ?_ GE215.out) | exact HB.out)) hb); clear HO0_0; clear HO0_1; clear BK214; clear BK215; clear HB; have HO0_0 := n0_; have HO0_1 := n1_; have BK214 := n2_; have BK215 := n3_; have HB := n4_; clear n0_ n1_ n2_ n3_ n4_; (try clear hb); (try clear hb2); (try clear hk); (try clear hi); have hcz16_0 : w15.cell? ⟨gb214, 0, none⟩ = some (.slice A0_0 l0_0.length c0_0) := (xC_ BK214.out 0).trans rfl; have hcz16_1 : w15.cell? ⟨gb214, 1, none⟩ = some (.slice A0_1 l0_1.length c0_1) := (xC_ BK214.out 1).trans rfl; have hfz16_0 := xF_ BK214.out 0; have hfz16_1 := xF_ BK214.out 1))
    go_meet
    case rel => exact ⟨_, (decide (a1 ≥ (l0_0.length : Int))), (by first | rfl | (simp; done) | (simp [*]; done)), H', ⟨by first | omega | exact Nat.le_refl _⟩, ⟨by (with_reducible repeat (first | apply Kd.V_alloc | apply Kd.V_drewN | apply Kd.V_drew)); exact Kd.V_mono HO0_0.out (fun _ hk => ⟨hk.1.1, ⟨hk.1.2, hk.2⟩⟩)⟩, ⟨by (with_reducible repeat (first | apply Kd.V_alloc | apply Kd.V_drewN | apply Kd.V_drew)); exact Kd.V_mono HO0_1.out (fun _ hk => ⟨hk.1.1, ⟨hk.1.2, hk.2⟩⟩)⟩, ⟨by (with_reducible repeat (first | apply xN_ | apply xD_ | apply xA_)); exact BK214.out⟩, ⟨by (with_reducible repeat (first | apply xN_ | apply xD_ | apply xA_)); exact BK215.out⟩, ⟨by repeat (first | (with_reducible first | exact HB.out | apply yA_ | apply yN_ | apply yD_ | refine yS_ ?_ GE214.out | refine yS_ ?_ GE215.out) | exact HB.out)⟩⟩
  ·replace c8 := Bool.eq_false_iff.mpr c8
   subst c8
   have H1 : (armadaref01_Put.j0 k a1 a2 true l0_0 l0_1) = some (r1, r2, r3) := by rw [if_neg (show ¬ (false = true) by decide)] at H; exact H
   clear H
   have H := H1
   clear H1
   have H' := Aside0.mk H
   clear H
   have hnb17 := NB214_215.out
   have hnc17 := NB215_214.out
   have hcz18_0 : w6.cell? ⟨gb214, 0, none⟩ = some (.slice A0_0 l0_0.length c0_0) := (xC_ BK214.out 0).trans rfl
   have hcz18_1 : w6.cell? ⟨gb214, 1, none⟩ = some (.slice A0_1 l0_1.length c0_1) := (xC_ BK214.out 1).trans rfl
   have hfz18_0 := xF_ BK214.out 0
   have hfz18_1 := xF_ BK214.out 1
   go_wp2_with (first | ((with_reducible refine gate_callee (f := 17) rfl ?_); refine goesL_ (some 10) rfl rfl Try.func17 (by kernel_rfl) rfl #[.agg #[.slice A0_0 l0_0.length c0_0, .slice A0_1 l0_1.length c0_1]] rfl (by (try simp only [List.map_toArray, List.map_cons, List.map_nil]); first | done | rfl) ?_; (with_reducible refine (armadaref01_May.calls k _ _ l0_0 _ _ l0_1 false _ ?side1 ?side2 ?side3 ?side4 A7.out).mono ?_); (case side1 => repeat (first | exact (Kd.V_reads' HO0_0.out).2.2 | (with_reducible refine Kd.C_alloc ?_ _) | (with_reducible refine Kd.C_drewN ?_ _) | (with_reducible refine Kd.C_drew ?_))); (case side2 => exact (Kd.V_reads' HO0_0.out).2.1); (case side3 => repeat (first | exact (Kd.V_reads' HO0_1.out).2.2 | (with_reducible refine Kd.C_alloc ?_ _) | (with_reducible refine Kd.C_drewN ?_ _) | (with_reducible refine Kd.C_drew ?_))); (case side4 => exact (Kd.V_reads' HO0_1.out).2.1); rintro e w19 ⟨rfl, hb⟩; refine ⟨_, rfl, ?_⟩; have n0_ := Aside0.mk (Kd.V_below (by (with_reducible repeat (first | apply Kd.V_alloc | apply Kd.V_drewN | apply Kd.V_drew)); exact HO0_0.out) hb); have n1_ := Aside0.mk (Kd.V_below (by (with_reducible repeat (first | apply Kd.V_alloc | apply Kd.V_drewN | apply Kd.V_drew)); exact HO0_1.out) hb); have n2_ := Aside0.mk (blk_below (g := gb214) (o := .cells #[.slice A0_0 l0_0.length c0_0, .slice A0_1 l0_1.length c0_1] 25 (0, 0)) (by (with_reducible repeat (first | apply xN_ | apply xD_ | apply xA_)); exact BK214.out) hb); have n3_ := Aside0.mk (blk_below (g := gb215) (o := .cells #[.slice none 0 0, .slice none 0 0] 25 (0, 0)) (by (with_reducible repeat (first | apply xN_ | apply xD_ | apply xA_)); exact BK215.out) hb); have n4_ := Aside0.mk (below_step (by repeat (first | (with_reducible first | exact HB.out | apply yA_ | apply yN_ | apply yD_ | refine yS_ ?_ GE214.out | refine yS_ ?_ GE215.out) | exact HB.out)) hb); clear HO0_0; clear HO0_1; clear BK214; clear BK215; clear HB; have HO0_0 := n0_; have HO0_1 := n1_; have BK214 := n2_; have BK215 := n3_; have HB := n4_; clear n0_ n1_ n2_ n3_ n4_; (try clear hb); (try clear hb2); (try clear hk); (try clear hi)))
   go_meet
   case rel => exact ⟨_, (true), (by first | rfl | (simp; done) | (simp [*]; done)), H', ⟨by first | omega | exact Nat.le_refl _⟩, ⟨by (with_reducible repeat (first | apply Kd.V_alloc | apply Kd.V_drewN | apply Kd.V_drew)); exact Kd.V_mono HO0_0.out (fun _ hk => ⟨hk.1.1, ⟨hk.1.2, hk.2⟩⟩)⟩, ⟨by (with_reducible repeat (first | apply Kd.V_alloc | apply Kd.V_drewN | apply Kd.V_drew)); exact Kd.V_mono HO0_1.out (fun _ hk => ⟨hk.1.1, ⟨hk.1.2, hk.2⟩⟩)⟩, ⟨by (with_reducible repeat (first | apply xN_ | apply xD_ | apply xA_)); exact BK214.out⟩, ⟨by (with_reducible repeat (first | apply xN_ | apply xD_ | apply xA_)); exact BK215.out⟩, ⟨by repeat (first | (with_reducible first | exact HB.out | apply yA_ | apply yN_ | apply yD_ | refine yS_ ?_ GE214.out | refine yS_ ?_ GE215.out) | exact HB.out)⟩⟩
 case rest =>
  clear HC4
  (try clear c1); (try clear p2); (try clear c8); (try clear c9); (try clear c9b0); (try clear c10); (try clear c12); (try clear c13); (try clear c17); (try clear hcz11_0)
  (try clear hcz11_1); (try clear hcz14_0); (try clear hcz14_1); (try clear hcz16_0); (try clear hcz16_1); (try clear hcz18_0); (try clear hcz18_1); (try clear hfz11_0)
  (try clear hfz11_1); (try clear hfz14_0); (try clear hfz14_1); (try clear hfz16_0); (try clear hfz16_1); (try clear hfz18_0); (try clear hfz18_1)
  obtain ⟨kq, x22_3, rfl, HA, HJ3, HO_215000, HO_215001, BK214, BK215, HB⟩ := hcut
  cases kq with
  | zero => exact absurd HA.out (by simp [armadaref01_Put.j0])
  | succ kj3 =>
   have H := HA.out
   clear HA
   simp only [armadaref01_Put.j0] at H
   by_cases c20 : x22_3 = true
   ·subst c20
    have H1 : (some (l0_0, l0_1, 1)) = some (r1, r2, r3) := by rw [if_pos rfl] at H; exact H
    clear H
    have H := H1
    clear H1
    simp only [Option.some.injEq, Prod.mk.injEq] at H
    obtain ⟨rfl, rfl, rfl⟩ := H
    have hnb21 := NB214_215.out
    have hnc21 := NB215_214.out
    have hcz22_0 : wc.cell? ⟨gb214, 0, none⟩ = some (.slice A0_0 l0_0.length c0_0) := (xC_ BK214.out 0).trans rfl
    have hcz22_1 : wc.cell? ⟨gb214, 1, none⟩ = some (.slice A0_1 l0_1.length c0_1) := (xC_ BK214.out 1).trans rfl
    have hfz22_0 := xF_ BK214.out 0
    have hfz22_1 := xF_ BK214.out 1
    have hcz23_0 : wc.cell? ⟨gb215, 0, none⟩ = some (.slice none 0 0) := (xC_ BK215.out 0).trans rfl
    have hcz23_1 : wc.cell? ⟨gb215, 1, none⟩ = some (.slice none 0 0) := (xC_ BK215.out 1).trans rfl
    have hfz23_0 := xF_ BK215.out 0
    have hfz23_1 := xF_ BK215.out 1
    go_wp2
    refine bodyPost_ret (results_ct rfl _ _ gb215 25 #[.slice A0_0 l0_0.length c0_0, .slice A0_1 l0_1.length c0_1] (0, 0) _ rfl (by (with_reducible repeat (first | apply xN_ | apply xD_ | apply xA_)); refine blk_put (cs := #[.slice A0_0 l0_0.length c0_0, .slice none 0 0]) ?_ 1 _ rfl; refine blk_put (cs := #[.slice none 0 0, .slice none 0 0]) ?_ 0 _ rfl; (with_reducible repeat (first | apply xN_ | apply xD_ | apply xA_)); exact BK215.out) Try.underlying25 rfl (by kernel_rfl)) rfl ?_
    exact ⟨_, _, by first | rfl | (simp [errW_none, errW_some] <;> rfl) | (simp [*, errW_none, errW_some] <;> rfl), by (with_reducible repeat (first | apply Kd.V_alloc | apply Kd.V_drewN | apply Kd.V_drew)); exact Kd.V_mono (Kd.V_far (p := ⟨gb215, 1, none⟩) (Kd.V_far (p := ⟨gb215, 0, none⟩) (Kd.V_mono HO_215000.out (fun k_ hk => (⟨hk, hk.2.2⟩ : _ ∧ k_ ≠ gb215))) (fun _ hk => hk.2) (.slice A0_0 l0_0.length c0_0)) (fun _ hk => hk.2) (.slice A0_1 l0_1.length c0_1)) (fun _ hk => hk.1.1), by (with_reducible repeat (first | apply Kd.V_alloc | apply Kd.V_drewN | apply Kd.V_drew)); exact Kd.V_mono (Kd.V_far (p := ⟨gb215, 1, none⟩) (Kd.V_far (p := ⟨gb215, 0, none⟩) (Kd.V_mono HO_215001.out (fun k_ hk => (⟨hk, hk.2.2⟩ : _ ∧ k_ ≠ gb215))) (fun _ hk => hk.2) (.slice A0_0 l0_0.length c0_0)) (fun _ hk => hk.2) (.slice A0_1 l0_1.length c0_1)) (fun _ hk => hk.1.1), by repeat (first | (with_reducible first | exact HB.out | apply yA_ | apply yN_ | apply yD_ | refine yS_ ?_ GE214.out | refine yS_ ?_ GE215.out) | exact HB.out)⟩
   ·replace c20 := Bool.eq_false_iff.mpr c20
    subst c20
    have H1 : (if (a2.size : Int) > 32 then (some (l0_0, l0_1, 2)) else ((some (([] : List (S27)) : List (S27))).bind fun y217 => (if y217.length + l0_1.length < 5864062014805 then ((some (y217 ++ l0_1 : List (S27))).bind fun y220 => ((armadaref01_fill.f kj3 a2).bind fun t223 => (if y220.length < 5864062014805 then (some (l0_0, (y220 ++ [(⟨a1, t223⟩ : S27)]), 0)) else (none)))) else (none)))) = some (r1, r2, r3) := by rw [if_neg (show ¬ (false = true) by decide)] at H; exact H
    clear H
    have H := H1
    clear H1
    by_cases c24 : (a2.size : Int) > 32
    ·rw [if_pos c24] at H
     have c24b0 : decide (32 < (a2.size : Int)) = true := decide_eq_true c24
     have c24b1 : decide (32 < a2.size) = true := decide_eq_true (by omega)
     clear c24
     simp only [Option.some.injEq, Prod.mk.injEq] at H
     obtain ⟨rfl, rfl, rfl⟩ := H
     have hnb25 := NB214_215.out
     have hnc25 := NB215_214.out
     have hcz26_0 : wc.cell? ⟨gb214, 0, none⟩ = some (.slice A0_0 l0_0.length c0_0) := (xC_ BK214.out 0).trans rfl
     have hcz26_1 : wc.cell? ⟨gb214, 1, none⟩ = some (.slice A0_1 l0_1.length c0_1) := (xC_ BK214.out 1).trans rfl
     have hfz26_0 := xF_ BK214.out 0
     have hfz26_1 := xF_ BK214.out 1
     have hcz27_0 : wc.cell? ⟨gb215, 0, none⟩ = some (.slice none 0 0) := (xC_ BK215.out 0).trans rfl
     have hcz27_1 : wc.cell? ⟨gb215, 1, none⟩ = some (.slice none 0 0) := (xC_ BK215.out 1).trans rfl
     have hfz27_0 := xF_ BK215.out 0
     have hfz27_1 := xF_ BK215.out 1
     go_wp2
     refine bodyPost_ret (results_ct rfl _ _ gb215 25 #[.slice A0_0 l0_0.length c0_0, .slice A0_1 l0_1.length c0_1] (0, 0) _ rfl (by (with_reducible repeat (first | apply xN_ | apply xD_ | apply xA_)); refine blk_put (cs := #[.slice A0_0 l0_0.length c0_0, .slice none 0 0]) ?_ 1 _ rfl; refine blk_put (cs := #[.slice none 0 0, .slice none 0 0]) ?_ 0 _ rfl; (with_reducible repeat (first | apply xN_ | apply xD_ | apply xA_)); exact BK215.out) Try.underlying25 rfl (by kernel_rfl)) rfl ?_
     exact ⟨_, _, by first | rfl | (simp [errW_none, errW_some] <;> rfl) | (simp [*, errW_none, errW_some] <;> rfl), by (with_reducible repeat (first | apply Kd.V_alloc | apply Kd.V_drewN | apply Kd.V_drew)); exact Kd.V_mono (Kd.V_far (p := ⟨gb215, 1, none⟩) (Kd.V_far (p := ⟨gb215, 0, none⟩) (Kd.V_mono HO_215000.out (fun k_ hk => (⟨hk, hk.2.2⟩ : _ ∧ k_ ≠ gb215))) (fun _ hk => hk.2) (.slice A0_0 l0_0.length c0_0)) (fun _ hk => hk.2) (.slice A0_1 l0_1.length c0_1)) (fun _ hk => hk.1.1), by (with_reducible repeat (first | apply Kd.V_alloc | apply Kd.V_drewN | apply Kd.V_drew)); exact Kd.V_mono (Kd.V_far (p := ⟨gb215, 1, none⟩) (Kd.V_far (p := ⟨gb215, 0, none⟩) (Kd.V_mono HO_215001.out (fun k_ hk => (⟨hk, hk.2.2⟩ : _ ∧ k_ ≠ gb215))) (fun _ hk => hk.2) (.slice A0_0 l0_0.length c0_0)) (fun _ hk => hk.2) (.slice A0_1 l0_1.length c0_1)) (fun _ hk => hk.1.1), by repeat (first | (with_reducible first | exact HB.out | apply yA_ | apply yN_ | apply yD_ | refine yS_ ?_ GE214.out | refine yS_ ?_ GE215.out) | exact HB.out)⟩
    ·rw [if_neg c24] at H
     have c24b0 : decide (32 < (a2.size : Int)) = false := decide_eq_false c24
     have c24b1 : decide (32 < a2.size) = false := decide_eq_false (by omega)
     clear c24
     obtain ⟨y217, hy217⟩ : ∃ y_ : List (S27), y_ = (([] : List (S27))) := ⟨_, rfl⟩
     replace H : (if y217.length + l0_1.length < 5864062014805 then ((some (y217 ++ l0_1 : List (S27))).bind fun y220 => ((armadaref01_fill.f kj3 a2).bind fun t223 => (if y220.length < 5864062014805 then (some (l0_0, (y220 ++ [(⟨a1, t223⟩ : S27)]), 0)) else (none)))) else (none)) = some (r1, r2, r3) := by first | (rw [hy217]; with_reducible exact H) | (have H2_ := (Option.bind_some _ _).symm.trans H; rw [hy217]; with_reducible exact H2_) | (have H2_ := (Option.bind_some _ _).symm.trans H; with_reducible exact H2_) | with_reducible exact H | (rw [hy217]; exact H) | exact H
     have Ny217 := Aside0.mk hy217
     clear hy217
     by_cases c28 : y217.length + l0_1.length < 5864062014805
     ·rw [if_pos c28] at H
      have LMc28 := Aside0.mk c28
      clear c28
      obtain ⟨y220, hy220⟩ : ∃ y_ : List (S27), y_ = (y217 ++ l0_1) := ⟨_, rfl⟩
      replace H : ((armadaref01_fill.f kj3 a2).bind fun t223 => (if y220.length < 5864062014805 then (some (l0_0, (y220 ++ [(⟨a1, t223⟩ : S27)]), 0)) else (none))) = some (r1, r2, r3) := by first | (rw [hy220]; with_reducible exact H) | (have H2_ := (Option.bind_some _ _).symm.trans H; rw [hy220]; with_reducible exact H2_) | (have H2_ := (Option.bind_some _ _).symm.trans H; with_reducible exact H2_) | with_reducible exact H | (rw [hy220]; exact H) | exact H
      have Ny220 := Aside0.mk hy220
      clear hy220
      replace H := Option.bind_eq_some_iff.mp H
      obtain ⟨t223, A290, H⟩ := H
      replace H : (if y220.length < 5864062014805 then (some (l0_0, (y220 ++ [(⟨a1, t223⟩ : S27)]), 0)) else (none)) = some (r1, r2, r3) := H
      have A29 := Aside0.mk A290
      clear A290
      by_cases c30 : y220.length < 5864062014805
      ·rw [if_pos c30] at H
       have LMc30 := Aside0.mk c30
       clear c30
       obtain ⟨y224, hy224⟩ : ∃ y_ : List (S27), y_ = (y220 ++ [(⟨a1, t223⟩ : S27)]) := ⟨_, rfl⟩
       replace H : (some (l0_0, y224, 0)) = some (r1, r2, r3) := by first | (rw [hy224]; with_reducible exact H) | (have H2_ := (Option.bind_some _ _).symm.trans H; rw [hy224]; with_reducible exact H2_) | (have H2_ := (Option.bind_some _ _).symm.trans H; with_reducible exact H2_) | with_reducible exact H | (rw [hy224]; exact H) | exact H
       have Ny224 := Aside0.mk hy224
       clear hy224
       simp only [Option.some.injEq, Prod.mk.injEq] at H
       obtain ⟨rfl, rfl, rfl⟩ := H
       go_wp2_with (first | ((with_reducible refine gate_dst (N := 28) rfl ?_); (try (refine gate_guard (by rfl) ?_; dsimp only)); refine Kd.R_lit k27 _ 27 ?hg (N := 28) ?hd (xs := ([] : List (S27))) (inner := []) (ok := fun _ => True) (okp := fun _ => True) ?hr ?hp (fun _ hk => hk) trivial (Below.refl _ _) (Nat.le_refl _) (by simp) ?_; (case hd => rfl); (case hg => rfl); (case hr => first | (go_simp; done) | (go_simp; rfl)); (case hp => exact (Reps.none _ _)); intro v218 w31 ho32 hb hg_ hnew_; clear hg_ hnew_; (first | rw [← Ny217.out] at ho32 | (simp only [Int.reduceToNat] at ho32; rw [← Ny217.out] at ho32)); have n0_ := Aside0.mk (Kd.V_elder' (by (with_reducible repeat (first | apply Kd.V_alloc | apply Kd.V_drewN | apply Kd.V_drew)); exact HO_215000.out) (Kd.R_base ho32) hb); have n1_ := Aside0.mk (Kd.V_elder' (by (with_reducible repeat (first | apply Kd.V_alloc | apply Kd.V_drewN | apply Kd.V_drew)); exact HO_215001.out) (Kd.R_base ho32) hb); have n2_ := Aside0.mk (Kd.R_lower (Kd.R_newM (M := fun k_ => (w.heap.size ≤ k_)) ho32 (below_size (by repeat (first | (with_reducible first | exact HB.out | apply yA_ | apply yN_ | apply yD_ | refine yS_ ?_ GE214.out | refine yS_ ?_ GE215.out) | exact HB.out))) (fun k_ h_ => h_)) (below_size (by repeat (first | (with_reducible first | exact HB.out | apply yA_ | apply yN_ | apply yD_ | refine yS_ ?_ GE214.out | refine yS_ ?_ GE215.out) | exact HB.out)))); have n3_ := Aside0.mk (blk_below (g := gb214) (o := .cells #[.slice A0_0 l0_0.length c0_0, .slice A0_1 l0_1.length c0_1] 25 (0, 0)) (by (with_reducible repeat (first | apply xN_ | apply xD_ | apply xA_)); exact BK214.out) hb); have n4_ := Aside0.mk (blk_below (g := gb215) (o := .cells #[.slice none 0 0, .slice none 0 0] 25 (0, 0)) (by (with_reducible repeat (first | apply xN_ | apply xD_ | apply xA_)); exact BK215.out) hb); have n5_ := Aside0.mk (below_step (by repeat (first | (with_reducible first | exact HB.out | apply yA_ | apply yN_ | apply yD_ | refine yS_ ?_ GE214.out | refine yS_ ?_ GE215.out) | exact HB.out)) hb); clear HO_215000; clear HO_215001; clear BK214; clear BK215; clear HB; have HO_215000 := n0_; have HO_215001 := n1_; have HO219 := n2_; have BK214 := n3_; have BK215 := n4_; have HB := n5_; clear n0_ n1_ n2_ n3_ n4_ n5_; clear hb ho32; have hnb33 := NB214_215.out; have hnc33 := NB215_214.out; have hcz34_0 : w31.cell? ⟨gb214, 0, none⟩ = some (.slice A0_0 l0_0.length c0_0) := (xC_ BK214.out 0).trans rfl; have hcz34_1 : w31.cell? ⟨gb214, 1, none⟩ = some (.slice A0_1 l0_1.length c0_1) := (xC_ BK214.out 1).trans rfl; have hfz34_0 := xF_ BK214.out 0; have hfz34_1 := xF_ BK214.out 1) | ((with_reducible refine gate_builtin (b := .append) (xs := #[.tmp 28, .tmp 30]) rfl ?_); (try (refine gate_guard (by rfl) ?_; dsimp only)); at_builtin; refine Kd.R_append_rows k27 (w0 := w) w.heap.size rfl (.tmp 28) (.tmp 30) 23 27 (.agg #[(.int .i64 0), (.string ⟨#[]⟩)]) 24 rfl Try.underlying23 info27 rfl (by decide) (by omega) v218 y217 l0_1 _ _ _ (fun k_ => (w.heap.size ≤ k_)) (fun _ => False) rfl rfl ?aO ?aR (fun _ _ h => h) (fun _ h => h.elim) ?aF ?aB ?aS ?aL ?_; (case aR => repeat (first | exact (Kd.V_reads' HO_215001.out).2.2 | (with_reducible refine Kd.C_alloc ?_ _) | (with_reducible refine Kd.C_drewN ?_ _) | (with_reducible refine Kd.C_drew ?_))); (case aB => exact (by repeat (first | (with_reducible first | exact HB.out | apply yA_ | apply yN_ | apply yD_ | refine yS_ ?_ GE214.out | refine yS_ ?_ GE215.out) | exact HB.out))); (case aF => exact (fun k_ hk => (Nat.le_trans (below_size (by repeat (first | (with_reducible first | exact HB.out | apply yA_ | apply yN_ | apply yD_ | refine yS_ ?_ GE214.out | refine yS_ ?_ GE215.out) | exact HB.out))) hk))); (case aO => exact (by (with_reducible repeat (first | apply Kd.R_alloc | apply Kd.R_drewN | apply Kd.R_drew)); exact Kd.R_mono HO219.out (fun _ hk => hk.1))); (case aS => exact (below_size (by repeat (first | (with_reducible first | exact HB.out | apply yA_ | apply yN_ | apply yD_ | refine yS_ ?_ GE214.out | refine yS_ ?_ GE215.out) | exact HB.out)))); (case aL => have := LMc28.out; omega); intro v221 w35 ho hb hg hat; rw [← Ny220.out] at ho; have n0_ := Aside0.mk (Kd.V_afterv (ok := (fun k_ => ((P0_0_ k_ ∨ P0_1_ k_) ∨ w.heap.size ≤ k_) ∧ k_ ≠ gb214 ∧ k_ ≠ gb215)) (by (with_reducible repeat (first | apply Kd.V_alloc | apply Kd.V_drewN | apply Kd.V_drew)); first | exact HO_215000.out | exact Kd.V_mono HO_215000.out (fun _ hk => ⟨⟨hk.1, hk.2.2⟩, hk.2.1⟩)) hg hat); have n1_ := Aside0.mk (Kd.V_afterv (ok := (fun k_ => ((P0_0_ k_ ∨ P0_1_ k_) ∨ w.heap.size ≤ k_) ∧ k_ ≠ gb214 ∧ k_ ≠ gb215)) (by (with_reducible repeat (first | apply Kd.V_alloc | apply Kd.V_drewN | apply Kd.V_drew)); first | exact HO_215001.out | exact Kd.V_mono HO_215001.out (fun _ hk => ⟨⟨hk.1, hk.2.2⟩, hk.2.1⟩)) hg hat); have n2_ := Aside0.mk (blk_grown (g := gb214) (o := .cells #[.slice A0_0 l0_0.length c0_0, .slice A0_1 l0_1.length c0_1] 25 (0, 0)) (by (with_reducible repeat (first | apply xN_ | apply xD_ | apply xA_)); exact BK214.out) hg (Kd.R_ne HO219.out BK214.out (by decide))); have n3_ := Aside0.mk (blk_grown (g := gb215) (o := .cells #[.slice none 0 0, .slice none 0 0] 25 (0, 0)) (by (with_reducible repeat (first | apply xN_ | apply xD_ | apply xA_)); exact BK215.out) hg (Kd.R_ne HO219.out BK215.out (by decide))); have n4_ := Aside0.mk (hb); have n5_ := Aside0.mk (ho); clear HO_215000; clear HO_215001; clear BK214; clear BK215; clear HB; clear HO219; have HO_215000 := n0_; have HO_215001 := n1_; have BK214 := n2_; have BK215 := n3_; have HB := n4_; have HO222 := n5_; clear n0_ n1_ n2_ n3_ n4_ n5_; clear ho hb hg hat) | ((with_reducible refine gate_callee (f := 30) rfl ?_); refine goesL_ (some 35) rfl rfl Try.func30 (by kernel_rfl) rfl #[.string a2] rfl (by (try simp only [List.map_toArray, List.map_cons, List.map_nil]); first | done | rfl) ?_; (with_reducible refine (armadaref01_fill.calls kj3 a2 t223 _ A29.out).mono ?_); rintro e w' ⟨rfl, ⟨nd, rfl⟩⟩; refine ⟨_, rfl, ?_⟩; (try (rw [drewN_self w35]; generalize hq_ : World.drewN w35 _ = w35; have n0_ : Aside0 (Kd.R k27 27 w35 w.heap.size (fun k_ => (w.heap.size ≤ k_)) v221 y220) := ⟨by rw [← hq_]; exact (by (with_reducible repeat (first | apply Kd.R_alloc | apply Kd.R_drewN | apply Kd.R_drew)); exact HO222.out)⟩; have n1_ : Aside0 (Kd.V Kd.string 9 w35 w.heap.size (fun k_ => ((P0_0_ k_ ∨ P0_1_ k_) ∨ w.heap.size ≤ k_) ∧ some k_ ≠ (v221 : Value).ownBlock ∧ k_ ≠ gb214 ∧ k_ ≠ gb215) (.slice A0_0 l0_0.length c0_0) l0_0) := ⟨by rw [← hq_]; exact (by (with_reducible repeat (first | apply Kd.V_alloc | apply Kd.V_drewN | apply Kd.V_drew)); exact Kd.V_mono HO_215000.out (fun _ hk => ⟨hk.1.1, ⟨hk.2, ⟨hk.1.2.1, hk.1.2.2⟩⟩⟩))⟩; have n2_ : Aside0 (Kd.V k27 27 w35 w.heap.size (fun k_ => ((P0_0_ k_ ∨ P0_1_ k_) ∨ w.heap.size ≤ k_) ∧ some k_ ≠ (v221 : Value).ownBlock ∧ k_ ≠ gb214 ∧ k_ ≠ gb215) (.slice A0_1 l0_1.length c0_1) l0_1) := ⟨by rw [← hq_]; exact (by (with_reducible repeat (first | apply Kd.V_alloc | apply Kd.V_drewN | apply Kd.V_drew)); exact Kd.V_mono HO_215001.out (fun _ hk => ⟨hk.1.1, ⟨hk.2, ⟨hk.1.2.1, hk.1.2.2⟩⟩⟩))⟩; have n3_ : Aside0 (w35.heap[gb214]? = some (.cells #[.slice A0_0 l0_0.length c0_0, .slice A0_1 l0_1.length c0_1] 25 (0, 0))) := ⟨by rw [← hq_]; exact (by (with_reducible repeat (first | apply xN_ | apply xD_ | apply xA_)); exact BK214.out)⟩; have n4_ : Aside0 (w35.heap[gb215]? = some (.cells #[.slice none 0 0, .slice none 0 0] 25 (0, 0))) := ⟨by rw [← hq_]; exact (by (with_reducible repeat (first | apply xN_ | apply xD_ | apply xA_)); exact BK215.out)⟩; have n5_ : Aside0 (Below w.heap.size w w35) := ⟨by rw [← hq_]; exact (by repeat (first | (with_reducible first | exact HB.out | apply yA_ | apply yN_ | apply yD_ | refine yS_ ?_ GE214.out | refine yS_ ?_ GE215.out) | exact HB.out))⟩; clear HO222 HO_215000 HO_215001 BK214 BK215 HB hq_; have HO222 := n0_; have HO_215000 := n1_; have HO_215001 := n2_; have BK214 := n3_; have BK215 := n4_; have HB := n5_; clear n0_ n1_ n2_ n3_ n4_ n5_))) | (go_at_call 30; (with_reducible refine (armadaref01_fill.calls kj3 a2 t223 _ A29.out).mono ?_); rintro e w' ⟨rfl, ⟨nd, rfl⟩⟩) | ((with_reducible refine gate_builtin (b := .append) (xs := #[.tmp 32, .tmp 37]) rfl ?_); (try (refine gate_guard (by rfl) ?_; dsimp only)); at_builtin; refine Kd.R_append k27 (w0 := w) w.heap.size rfl (.tmp 32) (.tmp 37) 23 27 (.agg #[(.int .i64 0), (.string ⟨#[]⟩)]) 24 rfl Try.underlying23 info27 rfl (by decide) (by omega) v221 y220 (⟨a1, t223⟩ : S27) [.int .i64 a1, .string t223] (fun k_ => (w.heap.size ≤ k_)) (fun _ => False) rfl rfl ?aP (fun _ hk => hk.elim) ?aF ?aO ?aB ?aS ?aL ?_; (case aP => exact k27_mkM _ _ _ (⟨a1, t223⟩ : S27)); (case aB => exact (by repeat (first | (with_reducible first | exact HB.out | apply yA_ | apply yN_ | apply yD_ | refine yS_ ?_ GE214.out | refine yS_ ?_ GE215.out) | exact HB.out))); (case aF => exact (fun k_ hk => (Nat.le_trans (below_size (by repeat (first | (with_reducible first | exact HB.out | apply yA_ | apply yN_ | apply yD_ | refine yS_ ?_ GE214.out | refine yS_ ?_ GE215.out) | exact HB.out))) hk))); (case aO => exact (by (with_reducible repeat (first | apply Kd.R_alloc | apply Kd.R_drewN | apply Kd.R_drew)); exact HO222.out)); (case aS => exact (below_size (by repeat (first | (with_reducible first | exact HB.out | apply yA_ | apply yN_ | apply yD_ | refine yS_ ?_ GE214.out | refine yS_ ?_ GE215.out) | exact HB.out)))); (case aL => have := LMc30.out; omega); intro v225 w36 ho hb hg hat; rw [← Ny224.out] at ho; have n0_ := Aside0.mk (Kd.V_afterv (ok := (fun k_ => ((P0_0_ k_ ∨ P0_1_ k_) ∨ w.heap.size ≤ k_) ∧ k_ ≠ gb214 ∧ k_ ≠ gb215)) (by (with_reducible repeat (first | apply Kd.V_alloc | apply Kd.V_drewN | apply Kd.V_drew)); first | exact HO_215000.out | exact Kd.V_mono HO_215000.out (fun _ hk => ⟨⟨hk.1, hk.2.2⟩, hk.2.1⟩)) hg hat); have n1_ := Aside0.mk (Kd.V_afterv (ok := (fun k_ => ((P0_0_ k_ ∨ P0_1_ k_) ∨ w.heap.size ≤ k_) ∧ k_ ≠ gb214 ∧ k_ ≠ gb215)) (by (with_reducible repeat (first | apply Kd.V_alloc | apply Kd.V_drewN | apply Kd.V_drew)); first | exact HO_215001.out | exact Kd.V_mono HO_215001.out (fun _ hk => ⟨⟨hk.1, hk.2.2⟩, hk.2.1⟩)) hg hat); have n2_ := Aside0.mk (blk_grown (g := gb214) (o := .cells #[.slice A0_0 l0_0.length c0_0, .slice A0_1 l0_1.length c0_1] 25 (0, 0)) (by (with_reducible repeat (first | apply xN_ | apply xD_ | apply xA_)); exact BK214.out) hg (Kd.R_ne HO222.out BK214.out (by decide))); have n3_ := Aside0.mk (blk_grown (g := gb215) (o := .cells #[.slice none 0 0, .slice none 0 0] 25 (0, 0)) (by (with_reducible repeat (first | apply xN_ | apply xD_ | apply xA_)); exact BK215.out) hg (Kd.R_ne HO222.out BK215.out (by decide))); have n4_ := Aside0.mk (hb); have n5_ := Aside0.mk (ho); clear HO_215000; clear HO_215001; clear BK214; clear BK215; clear HB; clear HO222; have HO_215000 := n0_; have HO_215001 := n1_; have BK214 := n2_; have BK215 := n3_; have HB := n4_; have HO226 := n5_; clear n0_ n1_ n2_ n3_ n4_ n5_; clear ho hb hg hat; obtain ⟨Ao37, co37, eo37⟩ := Kd.R_slice HO226.out; subst eo37; have hcz38_0 : w36.cell? ⟨gb214, 0, none⟩ = some (.slice A0_0 l0_0.length c0_0) := (xC_ BK214.out 0).trans rfl; have hcz38_1 : w36.cell? ⟨gb214, 1, none⟩ = some (.slice A0_1 l0_1.length c0_1) := (xC_ BK214.out 1).trans rfl; have hfz38_0 := xF_ BK214.out 0; have hfz38_1 := xF_ BK214.out 1; have hcz39_0 : w36.cell? ⟨gb215, 0, none⟩ = some (.slice none 0 0) := (xC_ BK215.out 0).trans rfl; have hcz39_1 : w36.cell? ⟨gb215, 1, none⟩ = some (.slice none 0 0) := (xC_ BK215.out 1).trans rfl; have hfz39_0 := xF_ BK215.out 0; have hfz39_1 := xF_ BK215.out 1))
       refine bodyPost_ret (results_ct rfl _ _ gb215 25 #[.slice A0_0 l0_0.length c0_0, .slice Ao37 y224.length co37] (0, 0) _ rfl (by (with_reducible repeat (first | apply xN_ | apply xD_ | apply xA_)); refine blk_put (cs := #[.slice A0_0 l0_0.length c0_0, .slice none 0 0]) ?_ 1 _ rfl; refine blk_put (cs := #[.slice none 0 0, .slice none 0 0]) ?_ 0 _ rfl; refine xR_ ?_ NB215_214.out _; (with_reducible repeat (first | apply xN_ | apply xD_ | apply xA_)); exact BK215.out) Try.underlying25 rfl (by kernel_rfl)) rfl ?_
       exact ⟨_, _, by first | rfl | (simp [errW_none, errW_some] <;> rfl) | (simp [*, errW_none, errW_some] <;> rfl), by (with_reducible repeat (first | apply Kd.V_alloc | apply Kd.V_drewN | apply Kd.V_drew)); exact Kd.V_mono (Kd.V_far (p := ⟨gb215, 1, none⟩) (Kd.V_far (p := ⟨gb215, 0, none⟩) (Kd.V_far (p := ⟨gb214, 1, none⟩) (Kd.V_mono (Kd.V_mono HO_215000.out (fun k_ hk => (⟨hk, hk.1.2.1⟩ : _ ∧ k_ ≠ gb214))) (fun k_ hk => (⟨hk, hk.1.1.2.2⟩ : _ ∧ k_ ≠ gb215))) (fun _ hk => hk.1.2) (.slice Ao37 y224.length co37)) (fun _ hk => hk.2) (.slice A0_0 l0_0.length c0_0)) (fun _ hk => hk.2) (.slice Ao37 y224.length co37)) (fun _ hk => hk.1.1.1.1), Kd.V_mono (Kd.R_V (by (with_reducible repeat (first | apply Kd.R_alloc | apply Kd.R_drewN | apply Kd.R_drew)); exact Kd.R_mono (Kd.R_far (p := ⟨gb215, 1, none⟩) (Kd.R_far (p := ⟨gb215, 0, none⟩) (Kd.R_far (p := ⟨gb214, 1, none⟩) (Kd.R_types (Kd.R_types HO226.out BK214.out (by decide)) BK215.out (by decide)) (fun _ hk => hk.1.2) (.slice Ao37 y224.length co37)) (fun _ hk => hk.2) (.slice A0_0 l0_0.length c0_0)) (fun _ hk => hk.2) (.slice Ao37 y224.length co37)) (fun _ hk => hk.1.1))) (fun k_ hk => by first | exact ⟨(.inr (hk.1)), hk.2⟩ | exact (.inr (hk))), by repeat (first | (with_reducible first | exact HB.out | apply yA_ | apply yN_ | apply yD_ | refine yS_ ?_ GE214.out | refine yS_ ?_ GE215.out) | exact HB.out)⟩
      ·rw [if_neg c30] at H
       exact absurd H (by simp)
     ·rw [if_neg c28] at H
      exact absurd H (by simp)
mutual
def armadaref01_Get.j0 : Nat → Int → Bool → List ByteArray → List (S27) → Option (ByteArray × Int)
 | 0, _, _, _, _ => none
 | k + 1, x1, x21, x228000, x228001 => if x21 = true then (some ((⟨#[]⟩ : ByteArray), 1)) else (if 0 ≤ x1 then (if x1 < (x228000.length : Int) then (armadaref01_Get.l0 k x1 (rdOf ByteArray.empty x228000 x1) 0 x228000 x228001) else (none)) else (none))
def armadaref01_Get.l0 : Nat → Int → ByteArray → Int → List ByteArray → List (S27) → Option (ByteArray × Int)
 | 0, _, _, _, _, _ => none
 | k + 1, x1, x6, x7, x228000, x228001 => if x7 < (x228001.length : Int) then (if 0 ≤ x7 then (if ((rd_T27 x228001 x7).f0) = x1 then (armadaref01_Get.l0 k x1 ((rd_T27 x228001 x7).f1) (wrap64 (x7 + 1)) x228000 x228001) else (armadaref01_Get.l0 k x1 x6 (wrap64 (x7 + 1)) x228000 x228001)) else (none)) else (some (x6, 0))
end
def armadaref01_Get.f (k : Nat) (l0_0 : List ByteArray) (l0_1 : List (S27)) (a1 : Int) : Option (ByteArray × Int) := (armadaref01_May.f k l0_0 l0_1).bind fun t228 => (if t228 = true then (if a1 < 0 then (armadaref01_Get.j0 k a1 true l0_0 l0_1) else (armadaref01_Get.j0 k a1 (decide (a1 ≥ (l0_0.length : Int))) l0_0 l0_1)) else (armadaref01_Get.j0 k a1 true l0_0 l0_1))
theorem armadaref01_Get.mono_l : ∀ k, (∀ y0 y1 y2 y3, LeO (armadaref01_Get.j0 k y0 y1 y2 y3) (armadaref01_Get.j0 (k + 1) y0 y1 y2 y3)) ∧ (∀ y0 y1 y2 y3 y4, LeO (armadaref01_Get.l0 k y0 y1 y2 y3 y4) (armadaref01_Get.l0 (k + 1) y0 y1 y2 y3 y4))
 | 0 => ⟨fun _ _ _ _ r h => by simp [armadaref01_Get.j0] at h, fun _ _ _ _ _ r h => by simp [armadaref01_Get.l0] at h⟩
 | k + 1 => by
  obtain ⟨ih0, ih1⟩ := armadaref01_Get.mono_l k
  refine ⟨?_, ?_⟩
  ·intro y0 y1 y2 y3
   unfold armadaref01_Get.j0
   repeat' first
   | (with_reducible exact ih0 _ _ _ _)
   | (with_reducible exact ih1 _ _ _ _ _)
   | (with_reducible exact armadaref01_May.mono _ _ _)
   | (with_reducible exact LeO.refl _)
   | (with_reducible exact LeO.none _)
   | (with_reducible refine LeO.ite ?_ ?_)
   | (with_reducible refine LeO.bind ?_ (fun _ => ?_))
   | exact ih0 _ _ _ _
   | exact ih1 _ _ _ _ _
   | exact armadaref01_May.mono _ _ _
   | exact LeO.none _
   | refine LeO.ite ?_ ?_
   | refine LeO.bind ?_ (fun _ => ?_)
  ·intro y0 y1 y2 y3 y4
   unfold armadaref01_Get.l0
   repeat' first
   | (with_reducible exact ih0 _ _ _ _)
   | (with_reducible exact ih1 _ _ _ _ _)
   | (with_reducible exact armadaref01_May.mono _ _ _)
   | (with_reducible exact LeO.refl _)
   | (with_reducible exact LeO.none _)
   | (with_reducible refine LeO.ite ?_ ?_)
   | (with_reducible refine LeO.bind ?_ (fun _ => ?_))
   | exact ih0 _ _ _ _
   | exact ih1 _ _ _ _ _
   | exact armadaref01_May.mono _ _ _
   | exact LeO.none _
   | refine LeO.ite ?_ ?_
   | refine LeO.bind ?_ (fun _ => ?_)
theorem armadaref01_Get.mono : ∀ a0 a1 a2 k, LeO (armadaref01_Get.f k a0 a1 a2) (armadaref01_Get.f (k + 1) a0 a1 a2) := by
 intro a0 a1 a2 k
 obtain ⟨ih0, ih1⟩ := armadaref01_Get.mono_l k
 unfold armadaref01_Get.f
 repeat' first
   | (with_reducible exact ih0 _ _ _ _)
   | (with_reducible exact ih1 _ _ _ _ _)
   | (with_reducible exact armadaref01_May.mono _ _ _)
   | (with_reducible exact LeO.refl _)
   | (with_reducible exact LeO.none _)
   | (with_reducible refine LeO.ite ?_ ?_)
   | (with_reducible refine LeO.bind ?_ (fun _ => ?_))
   | exact ih0 _ _ _ _
   | exact ih1 _ _ _ _ _
   | exact armadaref01_May.mono _ _ _
   | exact LeO.none _
   | refine LeO.ite ?_ ?_
   | refine LeO.bind ?_ (fun _ => ?_)
set_option maxHeartbeats 8000000 in
set_option maxRecDepth 100000 in
theorem armadaref01_Get.calls (k : Nat) (A0_0 : Option Addr) (c0_0 : Nat) (l0_0 : List ByteArray) (A0_1 : Option Addr) (c0_1 : Nat) (l0_1 : List (S27)) (a1 : Int) (r1 : ByteArray) (r2 : Int) (w : World) (hr0_0 : Kd.C Kd.string w A0_0 l0_0.length l0_0) (hc0_0 : l0_0.length ≤ c0_0) (hr0_1 : Kd.C k27 w A0_1 l0_1.length l0_1) (hc0_1 : l0_1.length ≤ c0_1) (h : armadaref01_Get.f k l0_0 l0_1 a1 = some (r1, r2)) :
  Calls Try.prog 14 #[.agg #[.slice A0_0 l0_0.length c0_0, .slice A0_1 l0_1.length c0_1], .int .i64 a1] w fun e w' => e = .returned (.tuple #[.string r1, .int .i64 r2]) ∧ Below w.heap.size w w' := by
 have hu25 := Try.underlying25
 have HR0_0 := Aside0.mk hr0_0
 have HC0_0 := Aside0.mk hc0_0
 clear hr0_0 hc0_0
 have HR0_1 := Aside0.mk hr0_1
 have HC0_1 := Aside0.mk hc0_1
 clear hr0_1 hc0_1
 have HB := Aside0.mk (Below.refl w.heap.size w)
 have H : ((armadaref01_May.f k l0_0 l0_1).bind fun t228 => (if t228 = true then (if a1 < 0 then (armadaref01_Get.j0 k a1 true l0_0 l0_1) else (armadaref01_Get.j0 k a1 (decide (a1 ≥ (l0_0.length : Int))) l0_0 l0_1)) else (armadaref01_Get.j0 k a1 true l0_0 l0_1))) = some (r1, r2) := h
 clear h
 have HC3 := Aside0.mk H
 clear H
 go_enter Try.func14, Try.ntmps14
 go_upto_region 1 with (first | ((with_reducible refine gate_dst (N := 2) rfl ?_); (try (refine gate_guard (by rfl) ?_; dsimp only)); refine box_event ?hg (N := 2) ?hd (cs := #[.slice A0_0 l0_0.length c0_0, .slice A0_1 l0_1.length c0_1]) (t := 25) ?hr ?_; (case hd => rfl); (case hg => rfl); (case hr => first | (go_simp; done) | (go_simp; rfl)); intro gb227 hg w4 hbox hb; have n0_ := Aside0.mk (below_step (by repeat (first | (with_reducible first | exact HB.out | apply yA_ | apply yN_ | apply yD_) | exact HB.out)) hb); have n1_ := Aside0.mk (hbox); have n2_ := Aside0.mk ((by rw [hg]; exact (below_size (by repeat (first | (with_reducible first | exact HB.out | apply yA_ | apply yN_ | apply yD_) | exact HB.out))) : w.heap.size ≤ gb227)); have n3_ := Aside0.mk ((by rw [hg]; exact (below_size (by repeat (first | (with_reducible first | exact HB.out | apply yA_ | apply yN_ | apply yD_) | exact HB.out))) : w.heap.size ≤ gb227)); clear HB; have HB := n0_; have BK227 := n1_; have GW227 := n2_; have GE227 := n3_; clear n0_ n1_ n2_ n3_; clear hb hbox hg))
 (try simp only [Act.put, List.setIfInBounds_toArray, List.set_cons_zero, List.set_cons_succ])
 go_cut [21] (fun v21 wc => ∃ (kq : Nat) (x21_2 : Bool), v21 = .bool x21_2 ∧ Aside0 (armadaref01_Get.j0 kq a1 x21_2 l0_0 l0_1 = some (r1, r2)) ∧ Aside0 (kq ≤ k) ∧ Aside0 (wc.heap[gb227]? = some (.cells #[(.slice A0_0 l0_0.length c0_0), (.slice A0_1 l0_1.length c0_1)] 25 (0, 0))) ∧ Aside0 (Below w.heap.size w wc))
 case first =>
  have H := HC3.out
  clear HC3
  replace H := Option.bind_eq_some_iff.mp H
  obtain ⟨t228, A50, H⟩ := H
  replace H : (if t228 = true then (if a1 < 0 then (armadaref01_Get.j0 k a1 true l0_0 l0_1) else (armadaref01_Get.j0 k a1 (decide (a1 ≥ (l0_0.length : Int))) l0_0 l0_1)) else (armadaref01_Get.j0 k a1 true l0_0 l0_1)) = some (r1, r2) := H
  have A5 := Aside0.mk A50
  clear A50
  by_cases c6 : t228 = true
  ·subst c6
   have H1 : (if a1 < 0 then (armadaref01_Get.j0 k a1 true l0_0 l0_1) else (armadaref01_Get.j0 k a1 (decide (a1 ≥ (l0_0.length : Int))) l0_0 l0_1)) = some (r1, r2) := by rw [if_pos rfl] at H; exact H
   clear H
   have H := H1
   clear H1
   by_cases c7 : a1 < 0
   ·rw [if_pos c7] at H
    have c7b0 : decide (a1 < 0) = true := decide_eq_true c7
    clear c7
    (first | rw [c7b0] | (simp only [i64_w, i32_w]; rw [c7b0]) | skip)
    have H' := Aside0.mk H
    clear H
    have hcz8_0 : w4.cell? ⟨gb227, 0, none⟩ = some (.slice A0_0 l0_0.length c0_0) := (xC_ BK227.out 0).trans rfl
    have hcz8_1 : w4.cell? ⟨gb227, 1, none⟩ = some (.slice A0_1 l0_1.length c0_1) := (xC_ BK227.out 1).trans rfl
    have hfz8_0 := xF_ BK227.out 0
    have hfz8_1 := xF_ BK227.out 1
    go_wp2_with (first | ((with_reducible refine gate_callee (f := 17) rfl ?_); refine goesL_ (some 9) rfl rfl Try.func17 (by kernel_rfl) rfl #[.agg #[.slice A0_0 l0_0.length c0_0, .slice A0_1 l0_1.length c0_1]] rfl (by (try simp only [List.map_toArray, List.map_cons, List.map_nil]); first | done | rfl) ?_; (with_reducible refine (armadaref01_May.calls k _ _ l0_0 _ _ l0_1 true _ ?side1 ?side2 ?side3 ?side4 A5.out).mono ?_); (case side1 => repeat (first | exact (Kd.C_below HR0_0.out HB.out) | (with_reducible refine Kd.C_alloc ?_ _) | (with_reducible refine Kd.C_drewN ?_ _) | (with_reducible refine Kd.C_drew ?_))); (case side2 => exact HC0_0.out); (case side3 => repeat (first | exact (Kd.C_below HR0_1.out HB.out) | (with_reducible refine Kd.C_alloc ?_ _) | (with_reducible refine Kd.C_drewN ?_ _) | (with_reducible refine Kd.C_drew ?_))); (case side4 => exact HC0_1.out); rintro e w9 ⟨rfl, hb⟩; refine ⟨_, rfl, ?_⟩; have n0_ := Aside0.mk (blk_below (g := gb227) (o := .cells #[.slice A0_0 l0_0.length c0_0, .slice A0_1 l0_1.length c0_1] 25 (0, 0)) (by (with_reducible repeat (first | apply xN_ | apply xD_ | apply xA_)); exact BK227.out) hb); have n1_ := Aside0.mk (below_step (by repeat (first | (with_reducible first | exact HB.out | apply yA_ | apply yN_ | apply yD_ | refine yS_ ?_ GE227.out) | exact HB.out)) hb); clear BK227; clear HB; have BK227 := n0_; have HB := n1_; clear n0_ n1_; (try clear hb); (try clear hb2); (try clear hk); (try clear hi)))
    go_meet
    case rel => exact ⟨_, (true), (by first | rfl | (simp; done) | (simp [*]; done)), H', ⟨by first | omega | exact Nat.le_refl _⟩, ⟨by (with_reducible repeat (first | apply xN_ | apply xD_ | apply xA_)); exact BK227.out⟩, ⟨by repeat (first | (with_reducible first | exact HB.out | apply yA_ | apply yN_ | apply yD_ | refine yS_ ?_ GE227.out) | exact HB.out)⟩⟩
   ·rw [if_neg c7] at H
    have c7b0 : decide (a1 < 0) = false := decide_eq_false c7
    clear c7
    (first | rw [c7b0] | (simp only [i64_w, i32_w]; rw [c7b0]) | skip)
    have H' := Aside0.mk H
    clear H
    have hcz10_0 : w4.cell? ⟨gb227, 0, none⟩ = some (.slice A0_0 l0_0.length c0_0) := (xC_ BK227.out 0).trans rfl
    have hcz10_1 : w4.cell? ⟨gb227, 1, none⟩ = some (.slice A0_1 l0_1.length c0_1) := (xC_ BK227.out 1).trans rfl
    have hfz10_0 := xF_ BK227.out 0
    have hfz10_1 := xF_ BK227.out 1
    go_wp2_with (first | ((with_reducible refine gate_callee (f := 17) rfl ?_); refine goesL_ (some 9) rfl rfl Try.func17 (by kernel_rfl) rfl #[.agg #[.slice A0_0 l0_0.length c0_0, .slice A0_1 l0_1.length c0_1]] rfl (by (try simp only [List.map_toArray, List.map_cons, List.map_nil]); first | done | rfl) ?_; (with_reducible refine (armadaref01_May.calls k _ _ l0_0 _ _ l0_1 true _ ?side1 ?side2 ?side3 ?side4 A5.out).mono ?_); (case side1 => repeat (first | exact (Kd.C_below HR0_0.out HB.out) | (with_reducible refine Kd.C_alloc ?_ _) | (with_reducible refine Kd.C_drewN ?_ _) | (with_reducible refine Kd.C_drew ?_))); (case side2 => exact HC0_0.out); (case side3 => repeat (first | exact (Kd.C_below HR0_1.out HB.out) | (with_reducible refine Kd.C_alloc ?_ _) | (with_reducible refine Kd.C_drewN ?_ _) | (with_reducible refine Kd.C_drew ?_))); (case side4 => exact HC0_1.out); rintro e w11 ⟨rfl, hb⟩; refine ⟨_, rfl, ?_⟩; have n0_ := Aside0.mk (blk_below (g := gb227) (o := .cells #[.slice A0_0 l0_0.length c0_0, .slice A0_1 l0_1.length c0_1] 25 (0, 0)) (by (with_reducible repeat (first | apply xN_ | apply xD_ | apply xA_)); exact BK227.out) hb); have n1_ := Aside0.mk (below_step (by repeat (first | (with_reducible first | exact HB.out | apply yA_ | apply yN_ | apply yD_ | refine yS_ ?_ GE227.out) | exact HB.out)) hb); clear BK227; clear HB; have BK227 := n0_; have HB := n1_; clear n0_ n1_; (try clear hb); (try clear hb2); (try clear hk); (try clear hi); have hcz12_0 : w11.cell? ⟨gb227, 0, none⟩ = some (.slice A0_0 l0_0.length c0_0) := (xC_ BK227.out 0).trans rfl; have hcz12_1 : w11.cell? ⟨gb227, 1, none⟩ = some (.slice A0_1 l0_1.length c0_1) := (xC_ BK227.out 1).trans rfl; have hfz12_0 := xF_ BK227.out 0; have hfz12_1 := xF_ BK227.out 1))
    go_meet
    case rel => exact ⟨_, (decide (a1 ≥ (l0_0.length : Int))), (by first | rfl | (simp; done) | (simp [*]; done)), H', ⟨by first | omega | exact Nat.le_refl _⟩, ⟨by (with_reducible repeat (first | apply xN_ | apply xD_ | apply xA_)); exact BK227.out⟩, ⟨by repeat (first | (with_reducible first | exact HB.out | apply yA_ | apply yN_ | apply yD_ | refine yS_ ?_ GE227.out) | exact HB.out)⟩⟩
  ·replace c6 := Bool.eq_false_iff.mpr c6
   subst c6
   have H1 : (armadaref01_Get.j0 k a1 true l0_0 l0_1) = some (r1, r2) := by rw [if_neg (show ¬ (false = true) by decide)] at H; exact H
   clear H
   have H := H1
   clear H1
   have H' := Aside0.mk H
   clear H
   have hcz13_0 : w4.cell? ⟨gb227, 0, none⟩ = some (.slice A0_0 l0_0.length c0_0) := (xC_ BK227.out 0).trans rfl
   have hcz13_1 : w4.cell? ⟨gb227, 1, none⟩ = some (.slice A0_1 l0_1.length c0_1) := (xC_ BK227.out 1).trans rfl
   have hfz13_0 := xF_ BK227.out 0
   have hfz13_1 := xF_ BK227.out 1
   go_wp2_with (first | ((with_reducible refine gate_callee (f := 17) rfl ?_); refine goesL_ (some 9) rfl rfl Try.func17 (by kernel_rfl) rfl #[.agg #[.slice A0_0 l0_0.length c0_0, .slice A0_1 l0_1.length c0_1]] rfl (by (try simp only [List.map_toArray, List.map_cons, List.map_nil]); first | done | rfl) ?_; (with_reducible refine (armadaref01_May.calls k _ _ l0_0 _ _ l0_1 false _ ?side1 ?side2 ?side3 ?side4 A5.out).mono ?_); (case side1 => repeat (first | exact (Kd.C_below HR0_0.out HB.out) | (with_reducible refine Kd.C_alloc ?_ _) | (with_reducible refine Kd.C_drewN ?_ _) | (with_reducible refine Kd.C_drew ?_))); (case side2 => exact HC0_0.out); (case side3 => repeat (first | exact (Kd.C_below HR0_1.out HB.out) | (with_reducible refine Kd.C_alloc ?_ _) | (with_reducible refine Kd.C_drewN ?_ _) | (with_reducible refine Kd.C_drew ?_))); (case side4 => exact HC0_1.out); rintro e w14 ⟨rfl, hb⟩; refine ⟨_, rfl, ?_⟩; have n0_ := Aside0.mk (blk_below (g := gb227) (o := .cells #[.slice A0_0 l0_0.length c0_0, .slice A0_1 l0_1.length c0_1] 25 (0, 0)) (by (with_reducible repeat (first | apply xN_ | apply xD_ | apply xA_)); exact BK227.out) hb); have n1_ := Aside0.mk (below_step (by repeat (first | (with_reducible first | exact HB.out | apply yA_ | apply yN_ | apply yD_ | refine yS_ ?_ GE227.out) | exact HB.out)) hb); clear BK227; clear HB; have BK227 := n0_; have HB := n1_; clear n0_ n1_; (try clear hb); (try clear hb2); (try clear hk); (try clear hi)))
   go_meet
   case rel => exact ⟨_, (true), (by first | rfl | (simp; done) | (simp [*]; done)), H', ⟨by first | omega | exact Nat.le_refl _⟩, ⟨by (with_reducible repeat (first | apply xN_ | apply xD_ | apply xA_)); exact BK227.out⟩, ⟨by repeat (first | (with_reducible first | exact HB.out | apply yA_ | apply yN_ | apply yD_ | refine yS_ ?_ GE227.out) | exact HB.out)⟩⟩
 case rest =>
  clear HC3
  (try clear c1); (try clear p2); (try clear c6); (try clear c7); (try clear c7b0); (try clear c14); (try clear hcz10_0); (try clear hcz10_1); (try clear hcz12_0)
  (try clear hcz12_1); (try clear hcz13_0); (try clear hcz13_1); (try clear hcz8_0); (try clear hcz8_1); (try clear hfz10_0); (try clear hfz10_1); (try clear hfz12_0)
  (try clear hfz12_1); (try clear hfz13_0); (try clear hfz13_1); (try clear hfz8_0); (try clear hfz8_1)
  obtain ⟨kq, x21_2, rfl, HA, HJ2, BK227, HB⟩ := hcut
  cases kq with
  | zero => exact absurd HA.out (by simp [armadaref01_Get.j0])
  | succ kj2 =>
   have H := HA.out
   clear HA
   simp only [armadaref01_Get.j0] at H
   by_cases c15 : x21_2 = true
   ·subst c15
    have H1 : (some ((⟨#[]⟩ : ByteArray), 1)) = some (r1, r2) := by rw [if_pos rfl] at H; exact H
    clear H
    have H := H1
    clear H1
    simp only [Option.some.injEq, Prod.mk.injEq] at H
    obtain ⟨rfl, rfl⟩ := H
    go_wp2
    go_ret2
    exact ⟨by first | rfl | (simp [errW_none, errW_some] <;> rfl) | (simp [*, errW_none, errW_some] <;> rfl), by repeat (first | (with_reducible first | exact HB.out | apply yA_ | apply yN_ | apply yD_ | refine yS_ ?_ GE227.out) | exact HB.out)⟩
   ·replace c15 := Bool.eq_false_iff.mpr c15
    subst c15
    have H1 : (if 0 ≤ a1 then (if a1 < (l0_0.length : Int) then (armadaref01_Get.l0 kj2 a1 (rdOf ByteArray.empty l0_0 a1) 0 l0_0 l0_1) else (none)) else (none)) = some (r1, r2) := by rw [if_neg (show ¬ (false = true) by decide)] at H; exact H
    clear H
    have H := H1
    clear H1
    by_cases c16 : 0 ≤ a1
    ·rw [if_pos c16] at H
     have c16b0 : decide (0 ≤ a1) = true := decide_eq_true c16
     clear c16
     by_cases c17 : a1 < (l0_0.length : Int)
     ·rw [if_pos c17] at H
      have c17b0 : decide (a1 < (l0_0.length : Int)) = true := decide_eq_true c17
      clear c17
      have H' := Aside0.mk H
      clear H
      have hcz18_0 : wc.cell? ⟨gb227, 0, none⟩ = some (.slice A0_0 l0_0.length c0_0) := (xC_ BK227.out 0).trans rfl
      have hcz18_1 : wc.cell? ⟨gb227, 1, none⟩ = some (.slice A0_1 l0_1.length c0_1) := (xC_ BK227.out 1).trans rfl
      have hfz18_0 := xF_ BK227.out 0
      have hfz18_1 := xF_ BK227.out 1
      have p229 : 0 ≤ (a1 : Int) := of_decide_eq_true (by first | (with_reducible assumption) | assumption)
      have q229 : a1 < (l0_0.length : Int) := of_decide_eq_true (by first | (with_reducible assumption) | assumption)
      obtain ⟨ad229, e229, hx229_0⟩ := Kd.at_string HR0_0.out a1 p229 q229
      cases e229
      replace hx229_0 := (HB.out.cell (World.block_lt_of_cell? w _ hx229_0)).trans hx229_0
      replace p229 := eq_true p229
      replace q229 := eq_true q229
      go_wp2
      go_loopg [6, 7] kj2 (fun kq v6 v7 w' => ∃ (x6_2 : ByteArray) (x7_2 : Int), v6 = .string x6_2 ∧ v7 = .int .i64 x7_2 ∧ Aside0 (armadaref01_Get.l0 kq a1 x6_2 x7_2 l0_0 l0_1 = some (r1, r2)) ∧ Aside0 (kq ≤ kj2) ∧ Aside0 (w'.heap[gb227]? = some (.cells #[(.slice (some ad229) l0_0.length c0_0), (.slice A0_1 l0_1.length c0_1)] 25 (0, 0))) ∧ Aside0 (Below w.heap.size w w'))
      case atStart => exact ⟨(rdOf ByteArray.empty l0_0 a1), (0), (by first | rfl | (simp; done) | (simp [*]; done)), (by first | rfl | (simp; done) | (simp [*]; done)), H', ⟨Nat.le_refl _⟩, ⟨by (with_reducible repeat (first | apply xN_ | apply xD_ | apply xA_)); exact BK227.out⟩, ⟨by repeat (first | (with_reducible first | exact HB.out | apply yA_ | apply yN_ | apply yD_ | refine yS_ ?_ GE227.out) | exact HB.out)⟩⟩
      case round =>
       clear H'
       (try clear c1); (try clear p2); (try clear q2); (try clear hx2); (try clear c6); (try clear c7); (try clear c7b0); (try clear c14); (try clear c15); (try clear c16)
       (try clear c16b0); (try clear c17); (try clear c17b0); (try clear hcz10_0); (try clear hcz10_1); (try clear hcz12_0); (try clear hcz12_1); (try clear hcz13_0)
       (try clear hcz13_1); (try clear hcz18_0); (try clear hcz18_1); (try clear hcz8_0); (try clear hcz8_1); (try clear hfz10_0); (try clear hfz10_1); (try clear hfz12_0)
       (try clear hfz12_1); (try clear hfz13_0); (try clear hfz13_1); (try clear hfz18_0); (try clear hfz18_1); (try clear hfz8_0); (try clear hfz8_1); (try clear hx229_0)
       (try clear p2); (try clear p229); (try clear q229)
       obtain ⟨x6_2, x7_2, rfl, rfl, HA, HK2, BK227, HB⟩ := hrel
       cases gk with
       | zero => exact absurd HA.out (by simp [armadaref01_Get.l0])
       | succ k2 =>
        have H := HA.out
        clear HA
        simp only [armadaref01_Get.l0] at H
        by_cases c19 : x7_2 < (l0_1.length : Int)
        ·rw [if_pos c19] at H
         have c19b0 : decide (x7_2 < (l0_1.length : Int)) = true := decide_eq_true c19
         clear c19
         by_cases c20 : 0 ≤ x7_2
         ·rw [if_pos c20] at H
          have c20b0 : decide (0 ≤ x7_2) = true := decide_eq_true c20
          clear c20
          by_cases c21 : ((rd_T27 l0_1 x7_2).f0) = a1
          ·rw [if_pos c21] at H
           have c21b0 : (((rd_T27 l0_1 x7_2).f0) == a1) = true := beq_iff_eq.mpr c21
           have c21b1 : (((rd_T27 l0_1 x7_2).f0) != a1) = false := bne_eq_false_iff_eq.mpr c21
           clear c21
           have H' := Aside0.mk H
           clear H
           have hcz22_0 : wr.cell? ⟨gb227, 0, none⟩ = some (.slice (some ad229) l0_0.length c0_0) := (xC_ BK227.out 0).trans rfl
           have hcz22_1 : wr.cell? ⟨gb227, 1, none⟩ = some (.slice A0_1 l0_1.length c0_1) := (xC_ BK227.out 1).trans rfl
           have hfz22_0 := xF_ BK227.out 0
           have hfz22_1 := xF_ BK227.out 1
           have p230 : 0 ≤ (x7_2 : Int) := of_decide_eq_true (by first | (with_reducible assumption) | assumption)
           have q230 : x7_2 < (l0_1.length : Int) := of_decide_eq_true (by first | (with_reducible assumption) | assumption)
           obtain ⟨ad230, e230, hx230_0, hx230_1⟩ := at_T27 HR0_1.out x7_2 p230 q230
           cases e230
           replace hx230_0 := (HB.out.cell (World.block_lt_of_cell? w _ hx230_0)).trans hx230_0
           replace hx230_1 := (HB.out.cell (World.block_lt_of_cell? w _ hx230_1)).trans hx230_1
           replace p230 := eq_true p230
           replace q230 := eq_true q230
           have p231 : 0 ≤ (x7_2 : Int) := of_decide_eq_true (by first | (with_reducible assumption) | assumption)
           have q231 : x7_2 < (l0_1.length : Int) := of_decide_eq_true (by first | (with_reducible assumption) | assumption)
           obtain ⟨ad231, e231, hx231_0, hx231_1⟩ := at_T27 HR0_1.out x7_2 p231 q231
           obtain rfl : ad230 = ad231 := (by injection e231)
           replace hx231_0 := (HB.out.cell (World.block_lt_of_cell? w _ hx231_0)).trans hx231_0
           replace hx231_1 := (HB.out.cell (World.block_lt_of_cell? w _ hx231_1)).trans hx231_1
           replace p231 := eq_true p231
           replace q231 := eq_true q231
           go_wp2
           go_roundg k2
           case measure => have := HJ2.out; have := HK2.out; omega
           case rel => exact ⟨((rd_T27 l0_1 x7_2).f1), (wrap64 (x7_2 + 1)), (by first | rfl | (simp; done) | (simp [*]; done)), (by first | rfl | (simp; done) | (simp [*]; done)), H', ⟨by have := HJ2.out; have := HK2.out; omega⟩, ⟨by (with_reducible repeat (first | apply xN_ | apply xD_ | apply xA_)); exact BK227.out⟩, ⟨by repeat (first | (with_reducible first | exact HB.out | apply yA_ | apply yN_ | apply yD_ | refine yS_ ?_ GE227.out) | exact HB.out)⟩⟩
          ·rw [if_neg c21] at H
           have c21b0 : (((rd_T27 l0_1 x7_2).f0) == a1) = false := beq_eq_false_iff_ne.mpr c21
           have c21b1 : (((rd_T27 l0_1 x7_2).f0) != a1) = true := bne_iff_ne.mpr c21
           have H' := Aside0.mk H
           clear H
           have hcz23_0 : wr.cell? ⟨gb227, 0, none⟩ = some (.slice (some ad229) l0_0.length c0_0) := (xC_ BK227.out 0).trans rfl
           have hcz23_1 : wr.cell? ⟨gb227, 1, none⟩ = some (.slice A0_1 l0_1.length c0_1) := (xC_ BK227.out 1).trans rfl
           have hfz23_0 := xF_ BK227.out 0
           have hfz23_1 := xF_ BK227.out 1
           have p230 : 0 ≤ (x7_2 : Int) := of_decide_eq_true (by first | (with_reducible assumption) | assumption)
           have q230 : x7_2 < (l0_1.length : Int) := of_decide_eq_true (by first | (with_reducible assumption) | assumption)
           obtain ⟨ad230, e230, hx230_0, hx230_1⟩ := at_T27 HR0_1.out x7_2 p230 q230
           cases e230
           replace hx230_0 := (HB.out.cell (World.block_lt_of_cell? w _ hx230_0)).trans hx230_0
           replace hx230_1 := (HB.out.cell (World.block_lt_of_cell? w _ hx230_1)).trans hx230_1
           replace p230 := eq_true p230
           replace q230 := eq_true q230
           go_wp2
           go_roundg k2
           case measure => have := HJ2.out; have := HK2.out; omega
           case rel => exact ⟨(x6_2), (wrap64 (x7_2 + 1)), (by first | rfl | (simp; done) | (simp [*]; done)), (by first | rfl | (simp; done) | (simp [*]; done)), H', ⟨by have := HJ2.out; have := HK2.out; omega⟩, ⟨by (with_reducible repeat (first | apply xN_ | apply xD_ | apply xA_)); exact BK227.out⟩, ⟨by repeat (first | (with_reducible first | exact HB.out | apply yA_ | apply yN_ | apply yD_ | refine yS_ ?_ GE227.out) | exact HB.out)⟩⟩
         ·rw [if_neg c20] at H
          exact absurd H (by simp)
        ·rw [if_neg c19] at H
         have c19b0 : decide (x7_2 < (l0_1.length : Int)) = false := decide_eq_false c19
         clear c19
         simp only [Option.some.injEq, Prod.mk.injEq] at H
         obtain ⟨rfl, rfl⟩ := H
         have hcz24_0 : wr.cell? ⟨gb227, 0, none⟩ = some (.slice (some ad229) l0_0.length c0_0) := (xC_ BK227.out 0).trans rfl
         have hcz24_1 : wr.cell? ⟨gb227, 1, none⟩ = some (.slice A0_1 l0_1.length c0_1) := (xC_ BK227.out 1).trans rfl
         have hfz24_0 := xF_ BK227.out 0
         have hfz24_1 := xF_ BK227.out 1
         go_wp2
         go_ret2
         exact ⟨by first | rfl | (simp [errW_none, errW_some] <;> rfl) | (simp [*, errW_none, errW_some] <;> rfl), by repeat (first | (with_reducible first | exact HB.out | apply yA_ | apply yN_ | apply yD_ | refine yS_ ?_ GE227.out) | exact HB.out)⟩
     ·rw [if_neg c17] at H
      exact absurd H (by simp)
    ·rw [if_neg c16] at H
     exact absurd H (by simp)
end Go.Proofs.Ytnoafmnjnmlhmaa.P
