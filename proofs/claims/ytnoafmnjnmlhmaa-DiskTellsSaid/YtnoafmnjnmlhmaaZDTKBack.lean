/- disk: slices.Backward over writes: the iterator, walked. -/
import Derived.Test.YtnoafmnjnmlhmaaZDTKMay
import Derived.Test.YtnoafmnjnmlhmaaZDTXRange2
import Derived.RangeFuncNested
import Derived.Shelf.Abstract
import Derived.Shelf.AbstractIn
import Derived.Shelf.RegionOpen
import Derived.OwnWalkIn
import Derived.TacticsInMore
import Derived.LoopNIn
import Derived.LoopIn
import Derived.Outline
namespace Go.Proofs.Ytnoafmnjnmlhmaa.P
open Go.RowKit Go.Proofs.YtnoafmnjnmlhmaaW.PrintWords Go.Proofs.YtnoafmnjnmlhmaaW.PrintLast Go.Proofs.YtnoafmnjnmlhmaaW.PrintMore Go.Proofs.Ytnoafmnjnmlhmaa.Rg
attribute [local go_sem] Oper.semAt_some
set_option linter.unusedVariables false
set_option linter.unusedSimpArgs false
/-- The writes, the last one first. -/
def bk (c : List S27) : Nat → List (Nat × S27)
  | 0 => []
  | n + 1 => (n, rd_T27 c (n : Int)) :: bk c n
def encW (x : Nat × S27) : Array Value := #[.int .i64 (x.1 : Int), .agg #[.int .i64 x.2.f0, .string x.2.f1]]
/-- As it was in all blocks. -/
def Eld (W0 W : World) : Prop := ∀ k, k < W0.heap.size → W.heap[k]? = W0.heap[k]?
theorem Eld.below {W0 W : World} (h : Below W0.heap.size W0 W) : Eld W0 W := fun k hk => h.block k hk
set_option maxHeartbeats 8000000 in
set_option maxRecDepth 100000 in
theorem back_iter (n B : Nat) (A1 : Option Addr) (c1 : Nat) (c : List S27) (W0 : World) (hB : W0.heap[B]? = some (.cells #[.slice A1 c.length c1] 23 (0, 0))) (hr : Kd.C k27 W0 A1 c.length c) :
    Iter Try.prog n 39 #[.pointer (some ⟨B, 0, none⟩)] encW (bk c c.length) B (fun k => k < W0.heap.size) (Eld W0) := by
  intro l J Jx W hW cJ cX hY h0
  have HY := Aside0.mk hY
  have HR := Aside0.mk hr
  have HE := Aside0.mk hW
  have HB0 := Aside0.mk hB
  have HN := Aside0.mk hr.2.1
  have hu27 := Try.underlying27
  clear hY hr hW hB
  refine callsIn_of_wp Try.func39 rfl trivial ?_ rfl
  simp only [Try.ntmps39, List.size_toArray, List.length_cons, List.length_nil, Nat.reduceAdd, Nat.reduceSub, Array.replicate_succ, Array.replicate_zero, List.push_toArray, List.append_toArray, List.nil_append, List.cons_append]
  have k0 : W.cell? ⟨B, 0, none⟩ = some (.slice A1 c.length c1) := (blk_cell ((HE.out B (blk_lt HB0.out)).trans HB0.out) 0).trans rfl
  have hw0 : IntKind.i64.wrap ((c.length : Int) - 1) = (c.length : Int) - 1 := by rw [IntKind.wrap_i64]; have := HN.out; omega
  gi_wp2
  clear k0 hw0
  gi_loopw [3] (fun v3 wr => ∃ (k : Nat) (done : List (Nat × S27)), v3 = .int .i64 ((k : Int) - 1) ∧ Aside0 (Eld W0 wr) ∧ Aside0 (J done wr) ∧ Aside0 (bk c c.length = done ++ bk c k ∧ k ≤ c.length)) (fun v3 wr => (intOf v3 + 1).toNat)
  case atStart => exact ⟨c.length, [], rfl, HE, ⟨h0⟩, ⟨rfl, Nat.le_refl _⟩⟩
  case round =>
    clear HE h0
    obtain ⟨k, done, rfl, HE, HJ, HX⟩ := hrel
    cases k with
    | zero =>
      have d0 : decide ((0 : Int) ≤ ((0 : Nat) : Int) - 1) = false := by decide
      have d1 : ((0 : Nat) : Int) - 1 = -1 := by decide
      gi_wp2
      go_end0
      exact ⟨⟨_, rfl⟩, .inl (by have h := HX.out.1; rw [bk, List.append_nil] at h; rw [h]; exact HJ.out)⟩
    | succ k =>
      have e1 : ((k + 1 : Nat) : Int) - 1 = (k : Int) := by omega
      rw [e1]
      clear e1
      have p0 : (0 : Int) ≤ (k : Int) := by omega
      have p1 : (k : Int) < (c.length : Int) := by have := HX.out.2; omega
      have k0 : wr.cell? ⟨B, 0, none⟩ = some (.slice A1 c.length c1) := (blk_cell ((HE.out B (blk_lt HB0.out)).trans HB0.out) 0).trans rfl
      obtain ⟨ad, e1, hx0, hx1⟩ := at_T27 (k27_heap.C HE.out HR.out) (k : Int) p0 p1
      have hw1 : IntKind.i64.wrap ((k : Int) - 1) = (k : Int) - 1 := by rw [IntKind.wrap_i64]; have := HX.out.2; have := HN.out; omega
      have hY := HY.out done (k, rd_T27 c (k : Int)) (bk c k) wr (by rw [HX.out.1]; rfl) HJ.out
      rw [Int.toNat_natCast] at hx0 hx1
      have HXX := Aside0.mk (show bk c c.length = (done ++ [(k, rd_T27 c (k : Int))]) ++ bk c k from by rw [HX.out.1, bk, List.append_assoc]; rfl)
      clear hw1
      generalize rd_T27 c (k : Int) = x at *
      obtain ⟨fn, tmps, assign, body, hy, hR⟩ := hY
      unfold encW at hy
      subst e1
      have HK := Aside0.mk (show k ≤ c.length by have := HX.out.2; omega)
      have HW1 := Aside0.mk (show IntKind.i64.wrap ((k : Int) - 1) = (k : Int) - 1 by rw [IntKind.wrap_i64]; have := HX.out.2; have := HN.out; omega)
      gi_wp2
      refine hR.mono ?_
      rintro e W3 (⟨rfl, hJ3, hk3⟩ | ⟨rfl, hJx3⟩)
      · have HE3 : Aside0 (Eld W0 W3) := ⟨fun k hk => (hk3 k hk).trans (HE.out k hk)⟩
        replace hJ3 := Aside0.mk hJ3
        have hw1 := HW1.out
        clear k0 hx0 hx1 hk3
        gi_wp2
        go_roundw
        case rel => exact ⟨k, done ++ [(k, x)], rfl, HE3, hJ3, ⟨HXX.out, HK.out⟩⟩
        case measure => simp [intOf]
      · replace hJx3 := Aside0.mk hJx3
        gi_wp2
        refine bodyPost_ret (results_none rfl _ _ _) rfl ?_
        exact ⟨⟨_, rfl⟩, .inr ⟨done, (k, x), bk c k, by rw [HXX.out, List.append_assoc]; rfl, hJx3.out⟩⟩
end Go.Proofs.Ytnoafmnjnmlhmaa.P
