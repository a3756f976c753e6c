/- rec.filled: bytes, and bytes 0 up to a sector; by the shelf's contract of strings.Repeat. -/
import Derived.Test.YthoddglnfdmdeaaZJSH3
import Derived.Test.YthoddglnfdmdeaaZJSM0
import Derived.Test.YthoddglnfdmdeaaZJSXRange2
import Derived.RangeFuncNested
import Derived.Shelf.Abstract
import Derived.Shelf.AbstractIn
import Derived.Shelf.RegionOpen
import Derived.OwnWalkIn
import Derived.TacticsInMore
import Derived.LoopNIn
import Derived.LoopIn
import Derived.Outline
import Derived.Deep.LoopGhost
import Derived.Sort.AtCall
namespace Go.Proofs.Ythoddglnfdmdeaa.P
open Go.RowKit Go.Proofs.YthoddglnfdmdeaaW.PrintWords Go.Proofs.YthoddglnfdmdeaaW.PrintLast Go.Proofs.YthoddglnfdmdeaaW.PrintMore
set_option linter.unusedVariables false
set_option linter.unusedSimpArgs false
def rec_filled.f (a0 : ByteArray) : Option (ByteArray) := if a0.size ≤ 32 then some (a0 ++ zerosB (32 - a0.size)) else none
set_option maxHeartbeats 800000 in
theorem rec_filled.calls (a0 : ByteArray) (r : ByteArray) (w : World) (h : rec_filled.f a0 = some r) :
    Calls Try.prog 63 #[.string a0] w fun e w' => e = .returned (.string r) ∧ Below w.heap.size w w' := by
  unfold rec_filled.f at h
  by_cases c : a0.size ≤ 32
  · rw [if_pos c] at h
    obtain rfl := Option.some.inj h
    have hh : (32 : Int) - (a0.size : Int) = ((32 - a0.size : Nat) : Int) := by omega
    have hc1 : 32 - a0.size ≤ 9223372036854775807 := by omega
    have hc2 : (⟨#[0]⟩ : ByteArray).size * (32 - a0.size) ≤ 140737488355328 := by
      show 1 * (32 - a0.size) ≤ _
      omega
    have HR : ∀ w1, Calls Try.prog 51 #[.string ⟨#[0]⟩, .int .i64 ((32 : Int) - (a0.size : Int))] w1 fun e w' => e = .returned (.string (zerosB (32 - a0.size))) ∧ Below w1.heap.size w1 w' := by
      intro w1
      rw [hh]
      refine (Try.strings_Repeat ⟨#[0]⟩ (32 - a0.size) w1 hc1 hc2).mono ?_
      rintro e w' ⟨rfl, hb⟩
      refine ⟨?_, hb⟩
      show Ending.returned (.string ⟨(Lib.repeatL [(0 : UInt8)] (32 - a0.size)).toArray⟩) = _
      rw [repeat_zero]
      rfl
    have HB := Aside0.mk HR
    have hz : (zerosB (32 - a0.size)).size = 32 - a0.size := zerosB_size _
    have hle : a0.size + (zerosB (32 - a0.size)).size ≤ 9223372036854775807 := by omega
    clear hh hc1 hc2 HR hz
    generalize zerosB (32 - a0.size) = z at *
    go_enter Try.func63, Try.ntmps63
    go_wp2_with (go_at_call 51; refine (HB.out _).mono ?_; rintro e w' ⟨rfl, hb⟩)
    go_ret
    exact ⟨rfl, hb⟩
  · rw [if_neg c] at h
    cases h
end Go.Proofs.Ythoddglnfdmdeaa.P
namespace Go.Proofs.Ythoddglnfdmdeaa.P
open Go.RowKit Go.Proofs.YthoddglnfdmdeaaW.PrintWords Go.Proofs.YthoddglnfdmdeaaW.PrintLast Go.Proofs.YthoddglnfdmdeaaW.PrintMore Go.Proofs.Ythoddglnfdmdeaa.Rg
attribute [local go_sem] Oper.semAt_some
set_option linter.unusedVariables false
set_option linter.unusedSimpArgs false
/-- The writes, the last one first. -/
def bk (c : List S29) : Nat → List (Nat × S29)
  | 0 => []
  | n + 1 => (n, rd_T29 c (n : Int)) :: bk c n
def encW (x : Nat × S29) : Array Value := #[.int .i64 (x.1 : Int), .agg #[.int .i64 x.2.f0, .string x.2.f1]]
/-- As it was in all blocks. -/
def Eld (W0 W : World) : Prop := ∀ k, k < W0.heap.size → W.heap[k]? = W0.heap[k]?
theorem Eld.below {W0 W : World} (h : Below W0.heap.size W0 W) : Eld W0 W := fun k hk => h.block k hk
set_option maxHeartbeats 8000000 in
set_option maxRecDepth 100000 in
theorem back_iter (n B : Nat) (A1 : Option Addr) (c1 : Nat) (c : List S29) (W0 : World) (hB : W0.heap[B]? = some (.cells #[.slice A1 c.length c1] 23 (0, 0))) (hr : Kd.C k29 W0 A1 c.length c) :
    Iter Try.prog n 82 #[.pointer (some ⟨B, 0, none⟩)] encW (bk c c.length) B (fun k => k < W0.heap.size) (Eld W0) := by
  intro l J Jx W hW cJ cX hY h0
  have HY := Aside0.mk hY
  have HR := Aside0.mk hr
  have HE := Aside0.mk hW
  have HB0 := Aside0.mk hB
  have HN := Aside0.mk hr.2.1
  have hu27 := Try.underlying29
  clear hY hr hW hB
  refine callsIn_of_wp Try.func82 rfl trivial ?_ rfl
  simp only [Try.ntmps82, List.size_toArray, List.length_cons, List.length_nil, Nat.reduceAdd, Nat.reduceSub, Array.replicate_succ, Array.replicate_zero, List.push_toArray, List.append_toArray, List.nil_append, List.cons_append]
  have k0 : W.cell? ⟨B, 0, none⟩ = some (.slice A1 c.length c1) := (blk_cell ((HE.out B (blk_lt HB0.out)).trans HB0.out) 0).trans rfl
  have hw0 : IntKind.i64.wrap ((c.length : Int) - 1) = (c.length : Int) - 1 := by rw [IntKind.wrap_i64]; have := HN.out; omega
  gi_wp2
  clear k0 hw0
  gi_loopw [3] (fun v3 wr => ∃ (k : Nat) (done : List (Nat × S29)), v3 = .int .i64 ((k : Int) - 1) ∧ Aside0 (Eld W0 wr) ∧ Aside0 (J done wr) ∧ Aside0 (bk c c.length = done ++ bk c k ∧ k ≤ c.length)) (fun v3 wr => (intOf v3 + 1).toNat)
  case atStart => exact ⟨c.length, [], rfl, HE, ⟨h0⟩, ⟨rfl, Nat.le_refl _⟩⟩
  case round =>
    clear HE h0
    obtain ⟨k, done, rfl, HE, HJ, HX⟩ := hrel
    cases k with
    | zero =>
      have d0 : decide ((0 : Int) ≤ ((0 : Nat) : Int) - 1) = false := by decide
      have d1 : ((0 : Nat) : Int) - 1 = -1 := by decide
      gi_wp2
      go_end0
      exact ⟨⟨_, rfl⟩, .inl (by have h := HX.out.1; rw [bk, List.append_nil] at h; rw [h]; exact HJ.out)⟩
    | succ k =>
      have e1 : ((k + 1 : Nat) : Int) - 1 = (k : Int) := by omega
      rw [e1]
      clear e1
      have p0 : (0 : Int) ≤ (k : Int) := by omega
      have p1 : (k : Int) < (c.length : Int) := by have := HX.out.2; omega
      have k0 : wr.cell? ⟨B, 0, none⟩ = some (.slice A1 c.length c1) := (blk_cell ((HE.out B (blk_lt HB0.out)).trans HB0.out) 0).trans rfl
      obtain ⟨ad, e1, hx0, hx1⟩ := at_T29 (k29_heap.C HE.out HR.out) (k : Int) p0 p1
      have hw1 : IntKind.i64.wrap ((k : Int) - 1) = (k : Int) - 1 := by rw [IntKind.wrap_i64]; have := HX.out.2; have := HN.out; omega
      have hY := HY.out done (k, rd_T29 c (k : Int)) (bk c k) wr (by rw [HX.out.1]; rfl) HJ.out
      rw [Int.toNat_natCast] at hx0 hx1
      have HXX := Aside0.mk (show bk c c.length = (done ++ [(k, rd_T29 c (k : Int))]) ++ bk c k from by rw [HX.out.1, bk, List.append_assoc]; rfl)
      clear hw1
      generalize rd_T29 c (k : Int) = x at *
      obtain ⟨fn, tmps, assign, body, hy, hR⟩ := hY
      unfold encW at hy
      subst e1
      have HK := Aside0.mk (show k ≤ c.length by have := HX.out.2; omega)
      have HW1 := Aside0.mk (show IntKind.i64.wrap ((k : Int) - 1) = (k : Int) - 1 by rw [IntKind.wrap_i64]; have := HX.out.2; have := HN.out; omega)
      gi_wp2
      refine hR.mono ?_
      rintro e W3 (⟨rfl, hJ3, hk3⟩ | ⟨rfl, hJx3⟩)
      · have HE3 : Aside0 (Eld W0 W3) := ⟨fun k hk => (hk3 k hk).trans (HE.out k hk)⟩
        replace hJ3 := Aside0.mk hJ3
        have hw1 := HW1.out
        clear k0 hx0 hx1 hk3
        gi_wp2
        go_roundw
        case rel => exact ⟨k, done ++ [(k, x)], rfl, HE3, hJ3, ⟨HXX.out, HK.out⟩⟩
        case measure => simp [intOf]
      · replace hJx3 := Aside0.mk hJx3
        gi_wp2
        refine bodyPost_ret (results_none rfl _ _ _) rfl ?_
        exact ⟨⟨_, rfl⟩, .inr ⟨done, (k, x), bk c k, by rw [HXX.out, List.append_assoc]; rfl, hJx3.out⟩⟩
end Go.Proofs.Ythoddglnfdmdeaa.P
namespace Go.Proofs.Ythoddglnfdmdeaa.P
open Go.RowKit Go.Proofs.YthoddglnfdmdeaaW.PrintWords Go.Proofs.YthoddglnfdmdeaaW.PrintLast Go.Proofs.YthoddglnfdmdeaaW.PrintMore
attribute [local go_sem] max2_int min2_int max_two min_two max_three min_three max_four min_four
set_option linter.unusedVariables false
set_option linter.unusedSimpArgs false
/-- The sectors behind those writes of which kb tells it. -/
def wrt (kb : Nat → Bool) : Nat → List S29 → List ByteArray → List ByteArray
  | _, [], row => row
  | i, x :: r, row => wrt kb (i + 1) r (if kb i = true then row.set x.f0.toNat x.f1 else row)
theorem wrt_length (kb : Nat → Bool) : ∀ (r : List S29) (i : Nat) (row : List ByteArray), (wrt kb i r row).length = row.length
  | [], _, _ => rfl
  | x :: r, i, row => by
    rw [wrt, wrt_length kb r]
    split
    · rw [List.length_set]
    · rfl
set_option maxHeartbeats 4000000 in
set_option maxRecDepth 100000 in
theorem flush1_any (i : Int) (w : World) : Calls Try.prog 58 #[.int .i64 i] w fun e w' => e = .returned (.bool true) ∧ Drawn0 w w' := by
  go_enter Try.func58, Try.ntmps58
  go_wp2
  go_ret
  exact ⟨rfl, Drawn0.refl _⟩
set_option maxHeartbeats 8000000 in
set_option maxRecDepth 100000 in
theorem done_f (kb : Nat → Bool) (A0 : Option Addr) (c0 : Nat) (s : List ByteArray) (A1 : Option Addr) (c1 : Nat) (c : List S29) (w : World) (h0 : Kd.C Kd.string w A0 s.length s) (g0 : s.length ≤ c0) (h1 : Kd.C k29 w A1 c.length c) (g1 : c.length ≤ c1)
    (hk : ∀ (i : Nat) (W : World), i < c.length → Below w.heap.size w W → Calls Try.prog 58 #[.int .i64 (i : Int)] W fun e w' => e = .returned (.bool (kb i)) ∧ Drawn0 W w') (hm : mayB s c = true) :
    Calls Try.prog 47 #[.agg #[.slice A0 s.length c0, .slice A1 c.length c1], .func (.func 58) #[] #[]] w fun e w' =>
      ∃ v0, e = .returned (.tuple #[.agg #[v0, .slice none 0 0], .int .i64 0]) ∧ Kd.R Kd.string 9 w' w.heap.size (fun _ => True) v0 (wrt kb 0 c s) ∧ Below w.heap.size w w' := by
  have H0 := Aside0.mk h0
  have G0 := Aside0.mk g0
  have H1 := Aside0.mk h1
  have G1 := Aside0.mk g1
  have HK := Aside0.mk hk
  have HM := Aside0.mk hm
  have HL := Aside0.mk (mayB_sec hm)
  have HW := Aside0.mk (mayB_wr hm)
  have HB := Aside0.mk (Below.refl w.heap.size w)
  clear h0 g0 h1 g1 hk hm
  have hu25 := Try.underlying25
  have hu27 := Try.underlying29
  go_enter Try.func47, Try.ntmps47
  go_upto_region 4 with (first
    | ((with_reducible refine gate_dst (N := 2) rfl ?_); refine box_event ?hg (N := 2) ?hd (cs := #[.slice A0 s.length c0, .slice A1 c.length c1]) (t := 25) ?hr ?_; (case hd => rfl); (case hg => rfl); (case hr => first | (go_simp; done) | (go_simp; rfl)); intro gb2 hg wgb2 hbox hb; have GEgb2 := Aside0.mk ((by rw [hg]; exact below_size HB.out) : w.heap.size ≤ gb2); replace HB := Aside0.mk (below_step HB.out hb); have BKgb2 := Aside0.mk hbox; clear hb hbox hg)
    | ((with_reducible refine gate_dst (N := 4) rfl ?_); refine box_event ?hg (N := 4) ?hd (cs := #[.slice none 0 0, .slice none 0 0]) (t := 25) ?hr ?_; (case hd => rfl); (case hg => rfl); (case hr => first | (go_simp; done) | (go_simp; rfl)); intro gb4 hg wgb4 hbox hb; have GEgb4 := Aside0.mk ((by rw [hg]; exact below_size HB.out) : w.heap.size ≤ gb4); have NEgb2gb4 := Aside0.mk (by rw [hg]; exact Nat.ne_of_lt (blk_lt BKgb2.out) : gb2 ≠ gb4); replace BKgb2 := Aside0.mk (blk_below BKgb2.out hb); replace HB := Aside0.mk (below_step HB.out hb); have BKgb4 := Aside0.mk hbox; clear hb hbox hg; have hczgb2_0 : _ = some ((.slice A0 s.length c0 : Value)) := (blk_cell BKgb2.out 0).trans rfl; have hczgb2_1 : _ = some ((.slice A1 c.length c1 : Value)) := (blk_cell BKgb2.out 1).trans rfl; have hfzgb2_0 := blk_frozen BKgb2.out 0; have hfzgb2_1 := blk_frozen BKgb2.out 1)
    | (go_at_call 29; refine (may_any A0 c0 s A1 c1 c _ (Kd.C_below H0.out HB.out) G0.out (Kd.C_below H1.out HB.out) G1.out).mono ?_; rintro e w3 ⟨rfl, hb⟩; rw [HM.out]; replace BKgb2 := Aside0.mk (blk_below BKgb2.out hb); replace BKgb4 := Aside0.mk (blk_below BKgb4.out hb); replace HB := Aside0.mk (below_step HB.out hb); clear hb; (try clear hczgb2_0); (try clear hczgb2_1); (try clear hfzgb2_0); (try clear hfzgb2_1); have hczgb2_0 : _ = some ((.slice A0 s.length c0 : Value)) := (blk_cell BKgb2.out 0).trans rfl; have hczgb2_1 : _ = some ((.slice A1 c.length c1 : Value)) := (blk_cell BKgb2.out 1).trans rfl; have hfzgb2_0 := blk_frozen BKgb2.out 0; have hfzgb2_1 := blk_frozen BKgb2.out 1)
    | ((with_reducible refine gate_builtin (b := .append) (xs := #[.const (.slice none 0 0), .tmp 14]) rfl ?_); at_builtin; refine Kd.R_append_rows Kd.string (w0 := w) w.heap.size rfl (.const (.slice none 0 0)) (.tmp 14) 22 9 (.string ⟨#[]⟩) 16 rfl Try.underlying22 info9 rfl (by decide) (by omega) (.slice none 0 0) ([] : List ByteArray) s _ _ _ (fun k_ => (w.heap.size ≤ k_)) (fun _ => False) rfl rfl ?aO ?aR (fun _ _ h => h) (fun _ h => h.elim) ?aF ?aB ?aS ?aL ?_; (case aR => exact Kd.C_below H0.out HB.out); (case aB => exact HB.out); (case aF => exact (fun k_ hk => Nat.le_trans (below_size HB.out) hk)); (case aO => exact (Kd.R_nil _ _ _ _ (fun k_ => (w.heap.size ≤ k_)))); (case aS => exact below_size HB.out); (case aL => have := HL.out.2.1; simp; omega); intro v5 w5 ho hb hg hat; replace ho : Kd.R Kd.string 9 w5 w.heap.size (fun k_ => w.heap.size ≤ k_) v5 s := ho; replace BKgb2 := Aside0.mk (blk_grown BKgb2.out hg (by simp [Value.ownBlock])); replace BKgb4 := Aside0.mk (blk_grown BKgb4.out hg (by simp [Value.ownBlock])); replace HB := Aside0.mk hb; obtain ⟨g5, cap5, e5, gb5, gl5, cl5, HG5⟩ := Kd.R_form ho (by have := HL.out.1; omega); subst e5; have HO := Aside0.mk ho; have GE5 := Aside0.mk gb5; have NE52 := Aside0.mk (blk_ne HG5 BKgb2.out (by decide)); have NE54 := Aside0.mk (blk_ne HG5 BKgb4.out (by decide)); clear ho hb hg hat gb5 gl5 HG5 cl5)
    | ((with_reducible refine gate_dst (N := 6) rfl ?_); refine box_event ?hg (N := 6) ?hd (cs := #[.slice none 0 0, .slice none 0 0]) (t := 25) ?hr ?_; (case hd => rfl); (case hg => rfl); (case hr => first | (go_simp; done) | (go_simp; rfl)); intro gb6 hg wgb6 hbox hb; have GEgb6 := Aside0.mk ((by rw [hg]; exact below_size HB.out) : w.heap.size ≤ gb6); have NEgb2gb6 := Aside0.mk (by rw [hg]; exact Nat.ne_of_lt (blk_lt BKgb2.out) : gb2 ≠ gb6); have NEgb4gb6 := Aside0.mk (by rw [hg]; exact Nat.ne_of_lt (blk_lt BKgb4.out) : gb4 ≠ gb6); replace BKgb2 := Aside0.mk (blk_below BKgb2.out hb); replace BKgb4 := Aside0.mk (blk_below BKgb4.out hb); replace HO := Aside0.mk (Kd.R_below HO.out hb); replace HB := Aside0.mk (below_step HB.out hb); have BKgb6 := Aside0.mk hbox; clear hb hbox hg; have hczgb6_0 : _ = some ((.slice none 0 0 : Value)) := (blk_cell BKgb6.out 0).trans rfl; have hczgb6_1 : _ = some ((.slice none 0 0 : Value)) := (blk_cell BKgb6.out 1).trans rfl; have hfzgb6_0 := blk_frozen BKgb6.out 0; have hfzgb6_1 := blk_frozen BKgb6.out 1))
  clear hczgb2_0 hczgb2_1 hfzgb2_0 hfzgb2_1 hczgb6_0 hczgb6_1 hfzgb6_0 hfzgb6_1
  have m_BKgb2 := Aside0.mk (blk_far (blk_far BKgb2.out (p := ⟨gb6, 0, none⟩) NEgb2gb6.out (.slice (some ⟨g5, 0, none⟩) s.length cap5 : Value)) (p := ⟨gb6, 1, none⟩) NEgb2gb6.out (.slice none 0 0 : Value))
  have m_BKgb4 := Aside0.mk (blk_far (blk_far BKgb4.out (p := ⟨gb6, 0, none⟩) NEgb4gb6.out (.slice (some ⟨g5, 0, none⟩) s.length cap5 : Value)) (p := ⟨gb6, 1, none⟩) NEgb4gb6.out (.slice none 0 0 : Value))
  have m_BKgb6 := Aside0.mk (blk_put (cs' := #[(.slice (some ⟨g5, 0, none⟩) s.length cap5 : Value), (.slice none 0 0 : Value)]) (blk_put BKgb6.out 0 (.slice (some ⟨g5, 0, none⟩) s.length cap5 : Value) rfl) 1 (.slice none 0 0 : Value) rfl)
  have m_HO := Aside0.mk (Kd.R_mono (Kd.R_far (p := ⟨gb6, 1, none⟩) (Kd.R_far (p := ⟨gb6, 0, none⟩) (Kd.R_types HO.out BKgb6.out (by decide)) (fun _ hk => hk.2) (.slice (some ⟨g5, 0, none⟩) s.length cap5 : Value)) (fun _ hk => hk.2) (.slice none 0 0 : Value)) (fun _ hk => hk.1))
  have m_HB := Aside0.mk (below_set (j := 1) (v := (.slice none 0 0 : Value)) (below_set (j := 0) (v := (.slice (some ⟨g5, 0, none⟩) s.length cap5 : Value)) HB.out GEgb6.out) GEgb6.out)
  clear BKgb2 BKgb4 BKgb6 HO HB
  have BKgb2 := m_BKgb2; clear m_BKgb2
  have BKgb4 := m_BKgb4; clear m_BKgb4
  have BKgb6 := m_BKgb6; clear m_BKgb6
  have HO := m_HO; clear m_HO
  have HB := m_HB; clear m_HB
  generalize ((wgb6.setCell ⟨gb6, 0, none⟩ (.slice (some ⟨g5, 0, none⟩) s.length cap5 : Value)).setCell ⟨gb6, 1, none⟩ (.slice none 0 0 : Value)) = w6 at *
  have hczgb2_0 : _ = some ((.slice A0 s.length c0 : Value)) := (blk_cell BKgb2.out 0).trans rfl
  have hczgb2_1 : _ = some ((.slice A1 c.length c1 : Value)) := (blk_cell BKgb2.out 1).trans rfl
  have hfzgb2_0 := blk_frozen BKgb2.out 0
  have hfzgb2_1 := blk_frozen BKgb2.out 1
  go_wp2_with (fail)
  clear hczgb2_0 hczgb2_1 hfzgb2_0 hfzgb2_1
  clear BKgb2 NEgb2gb4 NEgb2gb6 NE52 GEgb2
  have NE56 := Aside0.mk (show g5 ≠ gb6 from fun e_ => Kd.R_ne HO.out BKgb6.out (by decide) (by rw [← e_]; rfl))
  have HN := Aside0.mk H1.out.2.1
  go_loopg [20] c.length (fun kq v20 W => ∃ (i : Nat) (row : List ByteArray), v20 = .int .i64 (i : Int) ∧ Aside0 (kq + i = c.length) ∧ Aside0 (wrt kb i (c.drop i) row = wrt kb 0 c s ∧ row.length = s.length) ∧ Aside0 (W.heap[gb4]? = some (.cells #[.slice none 0 0, .slice none 0 0] 25 (0, 0))) ∧ Aside0 (W.heap[gb6]? = some (.cells #[.slice (some ⟨g5, 0, none⟩) s.length cap5, .slice none 0 0] 25 (0, 0))) ∧ Aside0 (Kd.R Kd.string 9 W w.heap.size (fun k_ => w.heap.size ≤ k_) (.slice (some ⟨g5, 0, none⟩) s.length cap5) row) ∧ Aside0 (Below w.heap.size w W))
  case atStart => exact ⟨0, s, rfl, ⟨by omega⟩, ⟨rfl, rfl⟩, BKgb4, BKgb6, HO, HB⟩
  case round =>
    clear BKgb4 BKgb6 HO HB
    obtain ⟨i, row, rfl, HI, HX, BKgb4, BKgb6, HO, HB⟩ := hrel
    cases gk with
    | zero =>
      have d0 : decide ((i : Int) < (c.length : Int)) = false := decide_eq_false (by have := HI.out; omega)
      have d1 : decide (i < c.length) = false := decide_eq_false (by have := HI.out; omega)
      have HE := Aside0.mk (show wrt kb 0 c s = row from by rw [← HX.out.1, List.drop_of_length_le (by have := HI.out; omega)]; rfl)
      have hczgb6_0 : _ = some ((.slice (some ⟨g5, 0, none⟩) s.length cap5 : Value)) := (blk_cell BKgb6.out 0).trans rfl
      have hczgb6_1 : _ = some ((.slice none 0 0 : Value)) := (blk_cell BKgb6.out 1).trans rfl
      have hfzgb6_0 := blk_frozen BKgb6.out 0
      have hfzgb6_1 := blk_frozen BKgb6.out 1
      have hczgb4_0 : _ = some ((.slice none 0 0 : Value)) := (blk_cell BKgb4.out 0).trans rfl
      have hczgb4_1 : _ = some ((.slice none 0 0 : Value)) := (blk_cell BKgb4.out 1).trans rfl
      have hfzgb4_0 := blk_frozen BKgb4.out 0
      have hfzgb4_1 := blk_frozen BKgb4.out 1
      go_wp2_with (fail)
      refine bodyPost_ret (results_ct rfl _ _ gb4 25 #[.slice (some ⟨g5, 0, none⟩) s.length cap5, .slice none 0 0] (0, 0) _ rfl (blk_put (blk_put BKgb4.out 0 _ rfl) 1 _ rfl) Try.underlying25 rfl (by kernel_rfl)) rfl ?_
      refine ⟨_, rfl, ?_, below_set (below_set HB.out GEgb4.out) GEgb4.out⟩
      rw [HE.out]
      exact Kd.R_mono (Kd.R_far (p := ⟨gb4, 1, none⟩) (Kd.R_far (p := ⟨gb4, 0, none⟩) (Kd.R_types HO.out BKgb4.out (by decide)) (fun _ hk => hk.2) _) (fun _ hk => hk.2) _) (fun _ _ => trivial)
    | succ k1 =>
      have hlt : i < c.length := by have := HI.out; omega
      obtain ⟨x, r, hxr⟩ : ∃ x r, c.drop i = x :: r := ⟨_, _, List.drop_eq_getElem_cons hlt⟩
      obtain ⟨hx, -, hd⟩ := rdW_drop hxr
      have HXI := Aside0.mk (HW.out x (List.mem_of_mem_drop (i := i) (by rw [hxr]; exact List.mem_cons_self)))
      have d0 : decide ((i : Int) < (c.length : Int)) = true := decide_eq_true (by omega)
      have d1 : decide (i < c.length) = true := decide_eq_true hlt
      have p0 : (0 : Int) ≤ (i : Int) := by omega
      have p1 : (i : Int) < (c.length : Int) := by omega
      have hw1 : IntKind.i64.wrap ((i : Int) + 1) = (i : Int) + 1 := by rw [IntKind.wrap_i64]; have := HN.out; omega
      obtain ⟨ad, e1, hx0, hx1⟩ := at_T29 (Kd.C_below H1.out HB.out) (i : Int) p0 p1
      rw [hx, Int.toNat_natCast] at hx0 hx1
      have HRW := Aside0.mk (show wrt kb (i + 1) r (if kb i = true then row.set x.f0.toNat x.f1 else row) = wrt kb 0 c s from by rw [← HX.out.1, hxr, wrt])
      have HD := Aside0.mk hd
      have HLT := Aside0.mk hlt
      subst e1
      clear hx hxr hd hlt
      go_upto_region 7 with (first
        | ((with_reducible refine gate_dst (N := 8) rfl ?_); refine box_event ?hg (N := 8) ?hd (cs := #[.int .i64 0, .string ⟨#[]⟩]) (t := 29) ?hr ?_; (case hd => rfl); (case hg => rfl); (case hr => first | (go_simp; done) | (go_simp; rfl)); intro gb8 hg wgb8 hbox hb; have GEgb8 := Aside0.mk ((by rw [hg]; exact below_size HB.out) : w.heap.size ≤ gb8); have NEgb4gb8 := Aside0.mk (by rw [hg]; exact Nat.ne_of_lt (blk_lt BKgb4.out) : gb4 ≠ gb8); have NEgb6gb8 := Aside0.mk (by rw [hg]; exact Nat.ne_of_lt (blk_lt BKgb6.out) : gb6 ≠ gb8); replace BKgb4 := Aside0.mk (blk_below BKgb4.out hb); replace BKgb6 := Aside0.mk (blk_below BKgb6.out hb); replace HO := Aside0.mk (Kd.R_below HO.out hb); replace HB := Aside0.mk (below_step HB.out hb); have BKgb8 := Aside0.mk hbox; clear hb hbox hg; have hczgb8_0 : _ = some ((.int .i64 0 : Value)) := (blk_cell BKgb8.out 0).trans rfl; have hczgb8_1 : _ = some ((.string ⟨#[]⟩ : Value)) := (blk_cell BKgb8.out 1).trans rfl; have hfzgb8_0 := blk_frozen BKgb8.out 0; have hfzgb8_1 := blk_frozen BKgb8.out 1))
      clear hczgb8_0 hczgb8_1 hfzgb8_0 hfzgb8_1 hx0 hx1
      have m_BKgb4 := Aside0.mk (blk_far (blk_far BKgb4.out (p := ⟨gb8, 0, none⟩) NEgb4gb8.out (.int .i64 x.f0 : Value)) (p := ⟨gb8, 1, none⟩) NEgb4gb8.out (.string x.f1 : Value))
      have m_BKgb6 := Aside0.mk (blk_far (blk_far BKgb6.out (p := ⟨gb8, 0, none⟩) NEgb6gb8.out (.int .i64 x.f0 : Value)) (p := ⟨gb8, 1, none⟩) NEgb6gb8.out (.string x.f1 : Value))
      have m_HO := Aside0.mk (Kd.R_mono (Kd.R_far (p := ⟨gb8, 1, none⟩) (Kd.R_far (p := ⟨gb8, 0, none⟩) (Kd.R_types HO.out BKgb8.out (by decide)) (fun _ hk => hk.2) (.int .i64 x.f0 : Value)) (fun _ hk => hk.2) (.string x.f1 : Value)) (fun _ hk => hk.1))
      have m_BKgb8 := Aside0.mk (blk_put (cs' := #[(.int .i64 x.f0 : Value), (.string x.f1 : Value)]) (blk_put BKgb8.out 0 (.int .i64 x.f0 : Value) rfl) 1 (.string x.f1 : Value) rfl)
      have m_HB := Aside0.mk (below_set (j := 1) (v := (.string x.f1 : Value)) (below_set (j := 0) (v := (.int .i64 x.f0 : Value)) HB.out GEgb8.out) GEgb8.out)
      clear BKgb4 BKgb6 HO BKgb8 HB
      have BKgb4 := m_BKgb4; clear m_BKgb4
      have BKgb6 := m_BKgb6; clear m_BKgb6
      have HO := m_HO; clear m_HO
      have BKgb8 := m_BKgb8; clear m_BKgb8
      have HB := m_HB; clear m_HB
      generalize ((wgb8.setCell ⟨gb8, 0, none⟩ (.int .i64 x.f0 : Value)).setCell ⟨gb8, 1, none⟩ (.string x.f1 : Value)) = w9 at *
      obtain ⟨b, eb⟩ : ∃ b, kb i = b := ⟨_, rfl⟩
      have HKI := Aside0.mk (HK.out i w9 HLT.out HB.out)
      rw [eb] at HKI HRW
      clear eb
      cases b with
      | false =>
        go_wp2_with (go_at_call 58; refine HKI.out.mono ?_; rintro e w10 ⟨rfl, hd⟩; have hb := hd.below; clear hd; replace BKgb4 := Aside0.mk (blk_below BKgb4.out hb); replace BKgb6 := Aside0.mk (blk_below BKgb6.out hb); replace HO := Aside0.mk (Kd.R_below HO.out hb); replace BKgb8 := Aside0.mk (blk_below BKgb8.out hb); replace HB := Aside0.mk (below_step HB.out hb); clear hb)
        go_roundg k1
        case measure => omega
        case rel => exact ⟨i + 1, row, by simp, ⟨by have := HI.out; omega⟩, ⟨by rw [HD.out]; exact HRW.out, HX.out.2⟩, BKgb4, BKgb6, HO, HB⟩
      | true =>
        go_wp2_with (go_at_call 58; refine HKI.out.mono ?_; rintro e w10 ⟨rfl, hd⟩; have hb := hd.below; clear hd; replace BKgb4 := Aside0.mk (blk_below BKgb4.out hb); replace BKgb6 := Aside0.mk (blk_below BKgb6.out hb); replace HO := Aside0.mk (Kd.R_below HO.out hb); replace BKgb8 := Aside0.mk (blk_below BKgb8.out hb); replace HB := Aside0.mk (below_step HB.out hb); clear hb; have hczgb6_0 : _ = some ((.slice (some ⟨g5, 0, none⟩) s.length cap5 : Value)) := (blk_cell BKgb6.out 0).trans rfl; have hczgb6_1 : _ = some ((.slice none 0 0 : Value)) := (blk_cell BKgb6.out 1).trans rfl; have hfzgb6_0 := blk_frozen BKgb6.out 0; have hfzgb6_1 := blk_frozen BKgb6.out 1; have hczgb8_0 : _ = some ((.int .i64 x.f0 : Value)) := (blk_cell BKgb8.out 0).trans rfl; have hczgb8_1 : _ = some ((.string x.f1 : Value)) := (blk_cell BKgb8.out 1).trans rfl; have hfzgb8_0 := blk_frozen BKgb8.out 0; have hfzgb8_1 := blk_frozen BKgb8.out 1; have q0 := HXI.out.1; have q1 := HXI.out.2.1; have hcel := Kd.R_celln (⟨#[]⟩ : ByteArray) HO.out x.f0 q0 q1; have hcell := hcel.1; have hfro := hcel.2; clear hcel)
        go_roundg k1
        case measure => omega
        case rel => exact ⟨i + 1, row.set x.f0.toNat x.f1, by simp, ⟨by have := HI.out; omega⟩, ⟨by rw [HD.out]; exact HRW.out, by rw [List.length_set]; exact HX.out.2⟩, ⟨blk_far BKgb4.out (p := ⟨g5, x.f0.toNat, none⟩) (fun e_ => NE54.out e_.symm) _⟩, ⟨blk_far BKgb6.out (p := ⟨g5, x.f0.toNat, none⟩) (fun e_ => NE56.out e_.symm) _⟩, ⟨Kd.R_putn HO.out x.f0 x.f1⟩, ⟨below_set HB.out GE5.out⟩⟩
set_option maxHeartbeats 8000000 in
set_option maxRecDepth 100000 in
theorem done_ef (A0 : Option Addr) (c0 : Nat) (s : List ByteArray) (A1 : Option Addr) (c1 : Nat) (c : List S29) (w : World) (h0 : Kd.C Kd.string w A0 s.length s) (g0 : s.length ≤ c0) (h1 : Kd.C k29 w A1 c.length c) (g1 : c.length ≤ c1) (hm : mayB s c = false) :
    Calls Try.prog 47 #[.agg #[.slice A0 s.length c0, .slice A1 c.length c1], .func (.func 58) #[] #[]] w fun e w' =>
      e = .returned (.tuple #[.agg #[.slice A0 s.length c0, .slice A1 c.length c1], .int .i64 1]) ∧ Below w.heap.size w w' := by
  have H0 := Aside0.mk h0
  have G0 := Aside0.mk g0
  have H1 := Aside0.mk h1
  have G1 := Aside0.mk g1
  have HM := Aside0.mk hm
  have HB := Aside0.mk (Below.refl w.heap.size w)
  clear h0 g0 h1 g1 hm
  have hu25 := Try.underlying25
  go_enter Try.func47, Try.ntmps47
  go_wp2_with (first
    | ((with_reducible refine gate_dst (N := 2) rfl ?_); refine box_event ?hg (N := 2) ?hd (cs := #[.slice A0 s.length c0, .slice A1 c.length c1]) (t := 25) ?hr ?_; (case hd => rfl); (case hg => rfl); (case hr => first | (go_simp; done) | (go_simp; rfl)); intro gb2 hg wgb2 hbox hb; have GEgb2 := Aside0.mk ((by rw [hg]; exact below_size HB.out) : w.heap.size ≤ gb2); replace HB := Aside0.mk (below_step HB.out hb); have BKgb2 := Aside0.mk hbox; clear hb hbox hg)
    | ((with_reducible refine gate_dst (N := 4) rfl ?_); refine box_event ?hg (N := 4) ?hd (cs := #[.slice none 0 0, .slice none 0 0]) (t := 25) ?hr ?_; (case hd => rfl); (case hg => rfl); (case hr => first | (go_simp; done) | (go_simp; rfl)); intro gb4 hg wgb4 hbox hb; have GEgb4 := Aside0.mk ((by rw [hg]; exact below_size HB.out) : w.heap.size ≤ gb4); have NEgb2gb4 := Aside0.mk (by rw [hg]; exact Nat.ne_of_lt (blk_lt BKgb2.out) : gb2 ≠ gb4); replace BKgb2 := Aside0.mk (blk_below BKgb2.out hb); replace HB := Aside0.mk (below_step HB.out hb); have BKgb4 := Aside0.mk hbox; clear hb hbox hg; have hczgb2_0 : _ = some ((.slice A0 s.length c0 : Value)) := (blk_cell BKgb2.out 0).trans rfl; have hczgb2_1 : _ = some ((.slice A1 c.length c1 : Value)) := (blk_cell BKgb2.out 1).trans rfl; have hfzgb2_0 := blk_frozen BKgb2.out 0; have hfzgb2_1 := blk_frozen BKgb2.out 1)
    | (go_at_call 29; refine (may_any A0 c0 s A1 c1 c _ (Kd.C_below H0.out HB.out) G0.out (Kd.C_below H1.out HB.out) G1.out).mono ?_; rintro e w3 ⟨rfl, hb⟩; rw [HM.out]; replace BKgb2 := Aside0.mk (blk_below BKgb2.out hb); replace BKgb4 := Aside0.mk (blk_below BKgb4.out hb); replace HB := Aside0.mk (below_step HB.out hb); clear hb; (try clear hczgb2_0); (try clear hczgb2_1); (try clear hfzgb2_0); (try clear hfzgb2_1); have hczgb2_0 : _ = some ((.slice A0 s.length c0 : Value)) := (blk_cell BKgb2.out 0).trans rfl; have hczgb2_1 : _ = some ((.slice A1 c.length c1 : Value)) := (blk_cell BKgb2.out 1).trans rfl; have hfzgb2_0 := blk_frozen BKgb2.out 0; have hfzgb2_1 := blk_frozen BKgb2.out 1; have hczgb4_0 : _ = some ((.slice none 0 0 : Value)) := (blk_cell BKgb4.out 0).trans rfl; have hczgb4_1 : _ = some ((.slice none 0 0 : Value)) := (blk_cell BKgb4.out 1).trans rfl; have hfzgb4_0 := blk_frozen BKgb4.out 0; have hfzgb4_1 := blk_frozen BKgb4.out 1))
  refine bodyPost_ret (results_ct rfl _ _ gb4 25 #[.slice A0 s.length c0, .slice A1 c.length c1] (0, 0) _ rfl (blk_put (blk_put BKgb4.out 0 _ rfl) 1 _ rfl) Try.underlying25 rfl (by kernel_rfl)) rfl ?_
  exact ⟨rfl, below_set (below_set HB.out GEgb4.out) GEgb4.out⟩
end Go.Proofs.Ythoddglnfdmdeaa.P
