/- strings.SplitSeq at a sign of one byte: the iterator over the pieces, walked. -/
import Derived.Test.YthoiepkejhhcoaaDoorZVQGPieces
import Derived.Test.YthoiepkejhhcoaaDoorZVQGShelf
import Derived.Test.YthoiepkejhhcoaaDoorZVQXRange
import Derived.RangeFuncNested
import Derived.Shelf.Abstract
import Derived.Shelf.RegionOpen
import Derived.OwnWalkIn
import Derived.TacticsInMore
import Derived.LoopNIn
import Derived.LoopIn
import Derived.Outline
namespace Go.Proofs.YthoiepkejhhcoaaDoor.P
open Go.RowKit Go.Proofs.YthoiepkejhhcoaaDoorW.PrintWords Go.Proofs.YthoiepkejhhcoaaDoorW.PrintLast Go.Proofs.YthoiepkejhhcoaaDoorW.PrintMore Go.Proofs.YthoiepkejhhcoaaDoor.Rg
attribute [local go_sem] Oper.semAt_some
set_option linter.unusedVariables false
set_option linter.unusedSimpArgs false
/-- The three captured variables: the text, the sign, how much of the sign is kept. -/
def SeqB (bs : Nat) (c : UInt8) (x : ByteArray) (W : World) : Prop :=
  W.heap[bs]? = some (.cells #[.string x] 9 (0, 0)) ∧ W.heap[bs + 1]? = some (.cells #[.string ⟨#[c]⟩] 9 (0, 0)) ∧ W.heap[bs + 2]? = some (.cells #[.int .i64 0] 3 (0, 0))
theorem SeqB.cells {bs : Nat} {c : UInt8} {x : ByteArray} {W : World} (h : SeqB bs c x W) : W.cell? ⟨bs, 0, none⟩ = some (.string x) ∧ W.cell? ⟨bs + 1, 0, none⟩ = some (.string ⟨#[c]⟩) ∧ W.cell? ⟨bs + 2, 0, none⟩ = some (.int .i64 0) ∧ W.frozen? ⟨bs, 0, none⟩ = false :=
  ⟨blk_cell h.1 0, blk_cell h.2.1 0, blk_cell h.2.2 0, blk_frozen h.1 0⟩
theorem SeqB.same {bs : Nat} {c : UInt8} {x : ByteArray} {W W' : World} (h : SeqB bs c x W) (hk : ∀ k, (bs ≤ k ∧ k < bs + 3) → W'.heap[k]? = W.heap[k]?) : SeqB bs c x W' :=
  ⟨(hk _ ⟨by omega, by omega⟩).trans h.1, (hk _ ⟨by omega, by omega⟩).trans h.2.1, (hk _ ⟨by omega, by omega⟩).trans h.2.2⟩
theorem SeqB.put {bs : Nat} {c : UInt8} {x : ByteArray} {W : World} (h : SeqB bs c x W) (y : ByteArray) : SeqB bs c y (W.setCell ⟨bs, 0, none⟩ (.string y)) :=
  ⟨blk_put h.1 0 _ rfl, blk_far h.2.1 (p := ⟨bs, 0, none⟩) (by simp) _, blk_far h.2.2 (p := ⟨bs, 0, none⟩) (by simp) _⟩
def leftS (b : Nat) (W : World) : Nat := match W.cell? ⟨b, 0, none⟩ with
  | some (.string x) => x.size
  | _ => 0
theorem leftS_eq {bs : Nat} {c : UInt8} {x : ByteArray} {W : World} (h : SeqB bs c x W) : leftS bs W = x.size := by
  unfold leftS; rw [h.cells.1]
set_option maxHeartbeats 8000000 in
set_option maxRecDepth 100000 in
theorem splitSeq_iter (n bs : Nat) (c : UInt8) (s : ByteArray) (hs : s.size ≤ 1000000) :
    Iter Tryd.prog n 82 #[.pointer (some ⟨bs + 1, 0, none⟩), .pointer (some ⟨bs, 0, none⟩), .pointer (some ⟨bs + 2, 0, none⟩)] (fun x : ByteArray => #[Value.string x]) (spl c s) bs (fun k => bs ≤ k ∧ k < bs + 3) (SeqB bs c s) := by
  intro l J Jx W hW cJ cX hY h0
  have HS := Aside0.mk hs
  have HY := Aside0.mk hY
  have h1 : (⟨#[c]⟩ : ByteArray).size = 1 := rfl
  clear hs hY
  refine callsIn_of_wp Tryd.func82 rfl trivial ?_ rfl
  simp only [Tryd.ntmps82, List.size_toArray, List.length_cons, List.length_nil, Nat.reduceAdd, Nat.reduceSub, Array.replicate_succ, Array.replicate_zero, List.push_toArray, List.append_toArray, List.nil_append, List.cons_append]
  obtain ⟨k0, k1, k2, k3⟩ := hW.cells
  have HB := Aside0.mk hW
  clear hW
  gi_wp2
  gi_loopw [7] (fun v7 wr => ∃ (x : ByteArray) (k : Nat) (done : List ByteArray), Aside0 (SeqB bs c x wr) ∧ Aside0 (J done wr) ∧ Aside0 (spl c s = done ++ pieces c k x ∧ cnt c x = k ∧ x.size ≤ s.size)) (fun _ wr => leftS bs wr)
  case atStart => exact ⟨s, cnt c s, [], HB, ⟨h0⟩, ⟨rfl, rfl, Nat.le_refl _⟩⟩
  case round =>
    clear HB k0 k1 k2 k3 h0
    obtain ⟨x, k, done, HB, HJ, HX⟩ := hrel
    obtain ⟨k0, k1, k2, k3⟩ := HB.out.cells
    have hxs : x.size ≤ 1000000 := Nat.le_trans HX.out.2.2 HS.out
    cases k with
    | zero =>
      have HI := Aside0.mk (cnt_none HX.out.2.1)
      obtain ⟨fn, tmps, assign, body, hy, hR⟩ := HY.out done x [] wr (by rw [HX.out.1]; rfl) HJ.out
      gi_wp2_with (first
        | (refine ⟨trivial, ?_⟩; gi_at_call 62; refine (callsIn_wide.2 (YthoiepkejhhcoaaDoorS.strings_Index_one x c _)).mono ?_; rintro e w' ⟨rfl, hww⟩; subst w'; rw [HI.out]))
      refine hR.mono ?_
      rintro e W3 (⟨rfl, hJ3, hk3⟩ | ⟨rfl, hJx3⟩)
      · gi_wp2
        go_end0
        exact ⟨⟨_, rfl⟩, .inl (by have := HX.out.1; rw [pieces] at this; rw [this]; exact hJ3)⟩
      · gi_wp2
        go_end0
        exact ⟨⟨_, rfl⟩, .inr ⟨done, x, [], by rw [HX.out.1]; rfl, hJx3⟩⟩
    | succ k =>
      have hx := cnt_pos (c := c) (s := x) (by have := HX.out.2.1; omega)
      obtain ⟨m, hm⟩ : ∃ m, ix c x = m := ⟨_, rfl⟩
      rw [hm] at hx
      have HI := Aside0.mk hx.1
      have hmx := hx.2.1
      have hcx := Aside0.mk hx.2.2
      have HM := Aside0.mk hm
      have m0 : decide ((m : Int) < 0) = false := decide_eq_false (by omega)
      have m1 : (m : Int) ≤ (x.size : Int) := by omega
      have m2 : IntKind.i64.wrap (m : Int) = (m : Int) := by rw [IntKind.wrap_i64]; omega
      have m3 : IntKind.i64.wrap ((m : Int) + 1) = (m : Int) + 1 := by rw [IntKind.wrap_i64]; omega
      have m4 : (m : Int) + 1 ≤ (x.size : Int) := by omega
      have m5 : (0 : Int) ≤ (m : Int) + 1 := by omega
      have m6 : (0 : Int) ≤ (m : Int) := by omega
      obtain ⟨fn, tmps, assign, body, hy, hR⟩ := HY.out done (x.extract 0 m) (pieces c k (x.extract (m + 1) x.size)) wr (by rw [HX.out.1, pieces, HM.out]) HJ.out
      clear hx hm
      gi_wp2_with (first
        | (refine ⟨trivial, ?_⟩; gi_at_call 62; refine (callsIn_wide.2 (YthoiepkejhhcoaaDoorS.strings_Index_one x c _)).mono ?_; rintro e w' ⟨rfl, hww⟩; subst w'; rw [HI.out]))
      refine hR.mono ?_
      rintro e W3 (⟨rfl, hJ3, hk3⟩ | ⟨rfl, hJx3⟩)
      · have HB3 := Aside0.mk (HB.out.same hk3)
        clear k0 k1 k2 k3 hk3
        obtain ⟨k0, k1, k2, k3⟩ := HB3.out.cells
        replace hJ3 := Aside0.mk hJ3
        gi_wp2
        go_roundw
        case rel => exact ⟨x.extract (m + 1) x.size, k, done ++ [x.extract 0 m], ⟨HB3.out.put _⟩, ⟨cJ.cell _ hJ3.out⟩, ⟨by rw [HX.out.1, pieces, HM.out, List.append_assoc]; rfl, by have := hcx.out; have := HX.out.2.1; omega, by rw [ByteArray.size_extract]; have := HX.out.2.2; omega⟩⟩
        case measure => rw [leftS_eq (HB3.out.put _), leftS_eq HB.out, ByteArray.size_extract]; omega
      · gi_wp2
        refine bodyPost_ret (results_none rfl _ _ _) rfl ?_
        exact ⟨⟨_, rfl⟩, .inr ⟨done, x.extract 0 m, pieces c k (x.extract (m + 1) x.size), by rw [HX.out.1, pieces, HM.out], hJx3⟩⟩
end Go.Proofs.YthoiepkejhhcoaaDoor.P
