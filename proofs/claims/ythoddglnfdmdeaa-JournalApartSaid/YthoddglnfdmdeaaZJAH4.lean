/- rec.filled: bytes, and bytes 0 up to a sector; by the shelf's contract of strings.Repeat. -/
import Derived.Test.YthoddglnfdmdeaaZJAH3
import Derived.Test.YthoddglnfdmdeaaZJAM0
import Derived.Test.YthoddglnfdmdeaaZJAXRange2
import Derived.RangeFuncNested
import Derived.Shelf.Abstract
import Derived.Shelf.AbstractIn
import Derived.Shelf.RegionOpen
import Derived.OwnWalkIn
import Derived.TacticsInMore
import Derived.LoopNIn
import Derived.LoopIn
import Derived.Outline
import Derived.Deep.LoopGhost
import Derived.Sort.AtCall
namespace Go.Proofs.Ythoddglnfdmdeaa.P
open Go.RowKit Go.Proofs.YthoddglnfdmdeaaW.PrintWords Go.Proofs.YthoddglnfdmdeaaW.PrintLast Go.Proofs.YthoddglnfdmdeaaW.PrintMore
set_option linter.unusedVariables false
set_option linter.unusedSimpArgs false
def rec_filled.f (a0 : ByteArray) : Option (ByteArray) := if a0.size ≤ 32 then some (a0 ++ zerosB (32 - a0.size)) else none
set_option maxHeartbeats 800000 in
theorem rec_filled.calls (a0 : ByteArray) (r : ByteArray) (w : World) (h : rec_filled.f a0 = some r) :
    Calls Try.prog 63 #[.string a0] w fun e w' => e = .returned (.string r) ∧ Below w.heap.size w w' := by
  unfold rec_filled.f at h
  by_cases c : a0.size ≤ 32
  · rw [if_pos c] at h
    obtain rfl := Option.some.inj h
    have hh : (32 : Int) - (a0.size : Int) = ((32 - a0.size : Nat) : Int) := by omega
    have hc1 : 32 - a0.size ≤ 9223372036854775807 := by omega
    have hc2 : (⟨#[0]⟩ : ByteArray).size * (32 - a0.size) ≤ 140737488355328 := by
      show 1 * (32 - a0.size) ≤ _
      omega
    have HR : ∀ w1, Calls Try.prog 51 #[.string ⟨#[0]⟩, .int .i64 ((32 : Int) - (a0.size : Int))] w1 fun e w' => e = .returned (.string (zerosB (32 - a0.size))) ∧ Below w1.heap.size w1 w' := by
      intro w1
      rw [hh]
      refine (Try.strings_Repeat ⟨#[0]⟩ (32 - a0.size) w1 hc1 hc2).mono ?_
      rintro e w' ⟨rfl, hb⟩
      refine ⟨?_, hb⟩
      show Ending.returned (.string ⟨(Lib.repeatL [(0 : UInt8)] (32 - a0.size)).toArray⟩) = _
      rw [repeat_zero]
      rfl
    have HB := Aside0.mk HR
    have hz : (zerosB (32 - a0.size)).size = 32 - a0.size := zerosB_size _
    have hle : a0.size + (zerosB (32 - a0.size)).size ≤ 9223372036854775807 := by omega
    clear hh hc1 hc2 HR hz
    generalize zerosB (32 - a0.size) = z at *
    go_enter Try.func63, Try.ntmps63
    go_wp2_with (go_at_call 51; refine (HB.out _).mono ?_; rintro e w' ⟨rfl, hb⟩)
    go_ret
    exact ⟨rfl, hb⟩
  · rw [if_neg c] at h
    cases h
end Go.Proofs.Ythoddglnfdmdeaa.P
namespace Go.Proofs.Ythoddglnfdmdeaa.P
open Go.RowKit Go.Proofs.YthoddglnfdmdeaaW.PrintWords Go.Proofs.YthoddglnfdmdeaaW.PrintLast Go.Proofs.YthoddglnfdmdeaaW.PrintMore Go.Proofs.Ythoddglnfdmdeaa.Rg
attribute [local go_sem] Oper.semAt_some
set_option linter.unusedVariables false
set_option linter.unusedSimpArgs false
/-- The writes, the last one first. -/
def bk (c : List S29) : Nat → List (Nat × S29)
  | 0 => []
  | n + 1 => (n, rd_T29 c (n : Int)) :: bk c n
def encW (x : Nat × S29) : Array Value := #[.int .i64 (x.1 : Int), .agg #[.int .i64 x.2.f0, .string x.2.f1]]
/-- As it was in all blocks. -/
def Eld (W0 W : World) : Prop := ∀ k, k < W0.heap.size → W.heap[k]? = W0.heap[k]?
theorem Eld.below {W0 W : World} (h : Below W0.heap.size W0 W) : Eld W0 W := fun k hk => h.block k hk
set_option maxHeartbeats 8000000 in
set_option maxRecDepth 100000 in
theorem back_iter (n B : Nat) (A1 : Option Addr) (c1 : Nat) (c : List S29) (W0 : World) (hB : W0.heap[B]? = some (.cells #[.slice A1 c.length c1] 23 (0, 0))) (hr : Kd.C k29 W0 A1 c.length c) :
    Iter Try.prog n 82 #[.pointer (some ⟨B, 0, none⟩)] encW (bk c c.length) B (fun k => k < W0.heap.size) (Eld W0) := by
  intro l J Jx W hW cJ cX hY h0
  have HY := Aside0.mk hY
  have HR := Aside0.mk hr
  have HE := Aside0.mk hW
  have HB0 := Aside0.mk hB
  have HN := Aside0.mk hr.2.1
  have hu27 := Try.underlying29
  clear hY hr hW hB
  refine callsIn_of_wp Try.func82 rfl trivial ?_ rfl
  simp only [Try.ntmps82, List.size_toArray, List.length_cons, List.length_nil, Nat.reduceAdd, Nat.reduceSub, Array.replicate_succ, Array.replicate_zero, List.push_toArray, List.append_toArray, List.nil_append, List.cons_append]
  have k0 : W.cell? ⟨B, 0, none⟩ = some (.slice A1 c.length c1) := (blk_cell ((HE.out B (blk_lt HB0.out)).trans HB0.out) 0).trans rfl
  have hw0 : IntKind.i64.wrap ((c.length : Int) - 1) = (c.length : Int) - 1 := by rw [IntKind.wrap_i64]; have := HN.out; omega
  gi_wp2
  clear k0 hw0
  gi_loopw [3] (fun v3 wr => ∃ (k : Nat) (done : List (Nat × S29)), v3 = .int .i64 ((k : Int) - 1) ∧ Aside0 (Eld W0 wr) ∧ Aside0 (J done wr) ∧ Aside0 (bk c c.length = done ++ bk c k ∧ k ≤ c.length)) (fun v3 wr => (intOf v3 + 1).toNat)
  case atStart => exact ⟨c.length, [], rfl, HE, ⟨h0⟩, ⟨rfl, Nat.le_refl _⟩⟩
  case round =>
    clear HE h0
    obtain ⟨k, done, rfl, HE, HJ, HX⟩ := hrel
    cases k with
    | zero =>
      have d0 : decide ((0 : Int) ≤ ((0 : Nat) : Int) - 1) = false := by decide
      have d1 : ((0 : Nat) : Int) - 1 = -1 := by decide
      gi_wp2
      go_end0
      exact ⟨⟨_, rfl⟩, .inl (by have h := HX.out.1; rw [bk, List.append_nil] at h; rw [h]; exact HJ.out)⟩
    | succ k =>
      have e1 : ((k + 1 : Nat) : Int) - 1 = (k : Int) := by omega
      rw [e1]
      clear e1
      have p0 : (0 : Int) ≤ (k : Int) := by omega
      have p1 : (k : Int) < (c.length : Int) := by have := HX.out.2; omega
      have k0 : wr.cell? ⟨B, 0, none⟩ = some (.slice A1 c.length c1) := (blk_cell ((HE.out B (blk_lt HB0.out)).trans HB0.out) 0).trans rfl
      obtain ⟨ad, e1, hx0, hx1⟩ := at_T29 (k29_heap.C HE.out HR.out) (k : Int) p0 p1
      have hw1 : IntKind.i64.wrap ((k : Int) - 1) = (k : Int) - 1 := by rw [IntKind.wrap_i64]; have := HX.out.2; have := HN.out; omega
      have hY := HY.out done (k, rd_T29 c (k : Int)) (bk c k) wr (by rw [HX.out.1]; rfl) HJ.out
      rw [Int.toNat_natCast] at hx0 hx1
      have HXX := Aside0.mk (show bk c c.length = (done ++ [(k, rd_T29 c (k : Int))]) ++ bk c k from by rw [HX.out.1, bk, List.append_assoc]; rfl)
      clear hw1
      generalize rd_T29 c (k : Int) = x at *
      obtain ⟨fn, tmps, assign, body, hy, hR⟩ := hY
      unfold encW at hy
      subst e1
      have HK := Aside0.mk (show k ≤ c.length by have := HX.out.2; omega)
      have HW1 := Aside0.mk (show IntKind.i64.wrap ((k : Int) - 1) = (k : Int) - 1 by rw [IntKind.wrap_i64]; have := HX.out.2; have := HN.out; omega)
      gi_wp2
      refine hR.mono ?_
      rintro e W3 (⟨rfl, hJ3, hk3⟩ | ⟨rfl, hJx3⟩)
      · have HE3 : Aside0 (Eld W0 W3) := ⟨fun k hk => (hk3 k hk).trans (HE.out k hk)⟩
        replace hJ3 := Aside0.mk hJ3
        have hw1 := HW1.out
        clear k0 hx0 hx1 hk3
        gi_wp2
        go_roundw
        case rel => exact ⟨k, done ++ [(k, x)], rfl, HE3, hJ3, ⟨HXX.out, HK.out⟩⟩
        case measure => simp [intOf]
      · replace hJx3 := Aside0.mk hJx3
        gi_wp2
        refine bodyPost_ret (results_none rfl _ _ _) rfl ?_
        exact ⟨⟨_, rfl⟩, .inr ⟨done, (k, x), bk c k, by rw [HXX.out, List.append_assoc]; rfl, hJx3.out⟩⟩
end Go.Proofs.Ythoddglnfdmdeaa.P
namespace Go.Proofs.Ythoddglnfdmdeaa.P
open Go.RowKit Go.Proofs.YthoddglnfdmdeaaW.PrintWords Go.Proofs.YthoddglnfdmdeaaW.PrintLast Go.Proofs.YthoddglnfdmdeaaW.PrintMore
attribute [local go_sem] max2_int min2_int max_two min_two max_three min_three max_four min_four
set_option linter.unusedVariables false
set_option linter.unusedSimpArgs false
/-- The sectors behind those writes of which kb tells it. -/
def wrt (kb : Nat → Bool) : Nat → List S29 → List ByteArray → List ByteArray
  | _, [], row => row
  | i, x :: r, row => wrt kb (i + 1) r (if kb i = true then row.set x.f0.toNat x.f1 else row)
end Go.Proofs.Ythoddglnfdmdeaa.P
