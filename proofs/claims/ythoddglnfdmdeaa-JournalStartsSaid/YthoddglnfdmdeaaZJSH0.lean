/- A region that draws its order, whose operations read or call quietly, but for one that makes a block of its own (it may come up anywhere among them), and whose last few stand in one order: one walk of the text's order serves every order. -/
import Derived.StillTail
import Derived.Deep.QuietTactic
import Derived.Below
import Derived.Shelf.Strings.Builder1
import Derived.Shelf.Strings.Builder2
import Derived.Shelf.Strings.BuilderF
import Derived.Shelf.Strings.BuilderK
import Derived.Shelf.Strings.Builder2Cap
import Derived.Shelf.Strings.Prefix
import Derived.Shelf.Bits.Mul64
import Derived.Shelf.Strings.Repeat
import Derived.Shelf.Strings.BuilderCap
import Derived.Shelf.Slices.Equal
import Derived.Shelf.Slices.Empties2
import Derived.Test.YthoddglnfdmdeaaProg
set_option linter.unusedVariables false
set_option linter.unusedSimpArgs false
namespace Go.Proofs.Ythoddglnfdmdeaa.Q
open Go
section
variable {P : Program} {ops : Array Oper} {md : Region.Mode} {C : Bool → World → Prop} {e : Nat} {oe : Oper} {ve : Value}
def anyE (P : Program) (md : Region.Mode) (ops : Array Oper) (C : Bool → World → Prop) (n e : Nat) (de : Option Tmp) (ve : Value) (L : Array Bool → Act → Prop) : Nat → Bool → Array Bool → Act → Prop
  | 0, x, listed, a => x = true ∧ L listed a
  | f + 1, x, listed, a => Region.ready md ops listed ≠ [] ∧ ∀ i ∈ Region.ready md ops listed, i < n ∧
      (if i = e then x = false ∧ anyE P md ops C n e de ve L f true (listed.setIfInBounds e true) (a.put de ve) else qOp P ops (C x) i (anyE P md ops C n e de ve L f x (listed.setIfInBounds i true)) a)
theorem any_of_headE {n g : Nat} {de : Option Tmp} {L : Array Bool → Act → Prop} {Q' : Exit → Act → World → Prop}
    (hE : ∀ (a : Act) (W : World) (K : Act → World → Prop), C false W → (∀ W', C true W' → K (a.put de ve) W') → wpOp P ops Q' e K a W)
    (hL : ∀ listed a w, C true w → L listed a → wpAny P md ops Q' g listed a w) :
    ∀ (f : Nat) (x : Bool) (listed : Array Bool) (a : Act) (w : World), C x w → anyE P md ops C n e de ve L f x listed a → wpAny P md ops Q' (f + g) listed a w
  | 0, x, listed, a, w, hw, h => by
    obtain ⟨hx, h⟩ := h
    subst hx
    rw [Nat.zero_add]
    exact hL _ _ _ hw h
  | f + 1, x, listed, a, w, hw, h => by
    rw [show f + 1 + g = (f + g) + 1 by omega]
    refine ⟨fun h0 => absurd h0 h.1, fun i hi => ?_⟩
    have h2 := (h.2 i hi).2
    by_cases hie : i = e
    · rw [if_pos hie] at h2
      obtain ⟨hx, h2⟩ := h2
      subst hx
      rw [hie]
      exact hE a w _ hw (fun W' hW' => any_of_headE hE hL f true _ _ W' hW' h2)
    · rw [if_neg hie] at h2
      exact wpOp_of_qOp hw (fun a' w' hw' h' => any_of_headE hE hL f x _ a' w' hw' h') h2
theorem qOp_putE {j : Nat} {oi oj : Oper} {v : Value} {x : Bool} (hj : ops[j]? = some oj) (hap : oi.apart ops oj = true)
    (hsi : ∀ cs b, oi.op ≠ .select cs b) (hsj : ∀ cs b, oj.op ≠ .select cs b) {K : Act → Prop} {a : Act}
    (hy : ∀ y, YieldsIn P ops (C y) oi v a) (h : qOp P ops (C x) j K (a.put oi.dst v)) :
    qOp P ops (C x) j (fun a' => (∀ y, YieldsIn P ops (C y) oi v a') ∧ K (a'.put oi.dst v)) a := by
  obtain ⟨h1, h2, h3⟩ := Oper.apart_spec hap
  have keep : ∀ u, ∀ y, YieldsIn P ops (C y) oi v (a.put oj.dst u) := fun u y =>
    (hy y).of_same (execOp_put oi hsi a oj.dst u h3) (wanted_put oi a oj.dst u h3)
  unfold qOp at *
  simp only [hj] at *
  rw [wanted_put oj a oi.dst v h1] at h
  split
  · rename_i hw
    simp only [hw, if_true] at h
    obtain ⟨u, hu, hn⟩ := h
    refine ⟨u, fun w hw' => ?_, keep u, by rw [← Act.put_comm a v u h2]; exact hn⟩
    have := hu w hw'
    unfold Oper.quietAt at *
    rwa [execOp_put oj hsj a oi.dst v h1] at this
  · rename_i hw
    simp only [hw] at h
    exact ⟨keep _, by rw [← Act.put_comm a v undef h2]; exact h⟩
theorem anyE_first {n i : Nat} {oi : Oper} {v : Value} {L : Array Bool → Act → Prop} (hi : ops[i]? = some oi) (hie : i ≠ e) (hoe : ops[e]? = some oe) (hsel : ∀ (j : Nat) (o : Oper) cs b, ops[j]? = some o → o.op ≠ .select cs b)
    (hs : Region.sinkB md ops n = true) (hc : Region.chainB md ops n = true) (hn : n < ops.size) (hin : i < n) (hdone : ∀ listed a, L listed a → ∀ j ∈ Region.ready md ops listed, n ≤ j) :
    ∀ (f : Nat) (x : Bool) (listed : Array Bool) (a : Act), HeadInv md ops n listed →
      (∀ j oj, ops[j]? = some oj → j ≠ i → listed.getD j true = false → (∀ e ∈ oj.after, Region.binds md e = true → e.on ≠ i) → oi.apart ops oj = true) →
      i ∈ Region.ready md ops listed → (∀ y, YieldsIn P ops (C y) oi v a) → anyE P md ops C n e oe.dst ve L f x (listed.setIfInBounds i true) (a.put oi.dst v) → anyE P md ops C n e oe.dst ve L (f + 1) x listed a := by
  have below : ∀ (listed : Array Bool), HeadInv md ops n listed → i ∈ Region.ready md ops listed → ∀ j ∈ Region.ready md ops listed, j < n := fun listed inv hr j hj => by
    rcases Nat.lt_or_ge j n with h | h
    · exact h
    · exact absurd hj (tail_waits hs hc hn inv _ i rfl hin (mem_ready.1 hr).1 j h)
  intro f
  induction f with
  | zero =>
    intro x listed a inv _ hr hy H
    refine ⟨fun h => (by rw [h] at hr; cases hr), fun j hj => ⟨below listed inv hr j hj, ?_⟩⟩
    by_cases hji : j = i
    · subst hji; rw [if_neg hie]; exact (hy x).qOp hi H
    · have h1 := hdone _ _ H.2 j (ready_mono hj hji)
      have h2 := below listed inv hr j hj
      omega
  | succ f ih =>
    intro x listed a inv hfree hr hy H
    have hun := (mem_ready.1 hr).1
    refine ⟨fun h => (by rw [h] at hr; cases hr), fun j hj => ⟨below listed inv hr j hj, ?_⟩⟩
    by_cases hji : j = i
    · subst hji; rw [if_neg hie]; exact (hy x).qOp hi H
    · have h1 := (H.2 j (ready_mono hj hji)).2
      obtain ⟨hjun, oj, hoj, hall⟩ := mem_ready.1 hj
      have hnot : ∀ e ∈ oj.after, Region.binds md e = true → e.on ≠ i := fun e he hb heq => by
        have h1 := hall e he hb
        rw [heq, getD_both hun] at h1
        cases h1
      have hfree' : ∀ k ok, ops[k]? = some ok → k ≠ i → (listed.setIfInBounds j true).getD k true = false →
          (∀ e ∈ ok.after, Region.binds md e = true → e.on ≠ i) → oi.apart ops ok = true := fun k ok hk hki hu hno => by
        refine hfree k ok hk hki ?_ hno
        by_cases hjk : j = k
        · subst hjk; exact hjun
        · rw [getD_set_ne true hjk] at hu; exact hu
      by_cases hje : j = e
      · rw [if_pos hje] at h1 ⊢
        subst hje
        have hoo : oj = oe := by rw [hoj] at hoe; exact Option.some.inj hoe
        subst hoo
        obtain ⟨a1, a2, a3⟩ := Oper.apart_spec (hfree j oj hoj hji hjun hnot)
        refine ⟨h1.1, ih true _ _ (inv.set hj (below listed inv hr j hj)) hfree' (ready_mono hr (Ne.symm hji)) (fun y => (hy y).of_same (execOp_put oi (fun cs b => hsel i oi cs b hi) a oj.dst ve a3) (wanted_put oi a oj.dst ve a3)) ?_⟩
        rw [Array.setIfInBounds_comm _ _ hji, ← Act.put_comm a v ve a2]
        exact h1.2
      · rw [if_neg hje] at h1 ⊢
        have h2 := qOp_putE hoj (hfree j oj hoj hji hjun hnot) (fun cs b => hsel i oi cs b hi) (fun cs b => hsel j oj cs b hoj) hy h1
        refine qOp_mono (fun a' h3 => ih x (listed.setIfInBounds j true) a' (inv.set hj (below listed inv hr j hj)) hfree' (ready_mono hr (Ne.symm hji)) h3.1 ?_) h2
        rw [Array.setIfInBounds_comm _ _ hji]
        exact h3.2
/-- The walk: each operation tells one value, whether the block is there or not. -/
def wq (P : Program) (ops : Array Oper) (C : Bool → World → Prop) (Lq : Act → Prop) : List Oper → Act → Prop
  | [], a => Lq a
  | o :: l, a => ∃ v, (∀ y, YieldsIn P ops (C y) o v a) ∧ wq P ops C Lq l (a.put o.dst v)
theorem anyE_lex {n g : Nat} {Lq : Act → Prop} (he : e + 1 = n) (hoe : ops[e]? = some oe) (hsel : Region.noSelect ops = true) (hs : Region.sinkB md ops n = true) (hc : Region.chainB md ops n = true) (hn : n < ops.size) :
    ∀ (l : List Oper) (k : Nat) (listed : Array Bool) (a : Act), (∀ j, j < l.length → l[j]? = ops[k + j]?) → k + l.length + 1 = n → HeadInv md ops n listed →
    Region.lexHead md ops (g + 1) l.length k listed = true → wq P ops C (fun a' => Lq (a'.put oe.dst ve)) l a → anyE P md ops C n e oe.dst ve (fun listed' a' => Region.seqB md ops g n listed' = true ∧ Lq a') (l.length + 1) false listed a
  | [], k, listed, a, _, hk, _, hB, h => by
    obtain rfl : k = e := by simp at hk; omega
    have hseq : Region.seqB md ops (g + 1) k listed = true := by simpa [Region.lexHead] using hB
    simp only [Region.seqB, Bool.and_eq_true, decide_eq_true_eq] at hseq
    refine ⟨by rw [hseq.1]; simp, fun i hi => ?_⟩
    rw [hseq.1] at hi
    obtain rfl : i = k := by simpa using hi
    refine ⟨by omega, ?_⟩
    rw [if_pos rfl]
    refine ⟨rfl, rfl, ?_, h⟩
    rw [he] at hseq
    exact hseq.2
  | o :: l, k, listed, a, hl, hk, inv, hB, h => by
    have h0 : ops[k]? = some o := by simpa using (hl 0 (by simp)).symm
    simp only [List.length_cons, Region.lexHead, Bool.and_eq_true] at hB
    simp only [List.length_cons] at hk
    have hkn : k < n := by omega
    have hr' : k ∈ Region.ready md ops listed := by simpa using hB.1.1
    obtain ⟨v, hy, hK⟩ := h
    exact anyE_first h0 (by omega) hoe (Region.noSelect_spec hsel) hs hc hn hkn (fun listed' a' hL => seqB_ready hL.1) (l.length + 1) false listed a inv (Region.free_spec h0 hB.1.2) hr' hy
      (anyE_lex he hoe hsel hs hc hn l (k + 1) _ _ (fun j hj => by have := hl (j + 1) (by simp; omega); simpa [Nat.add_assoc, Nat.add_comm 1 j] using this) (by omega) (inv.set hr' hkn) hB.2 hK)
/-- The worlds ahead of the block, and behind it. -/
def Two (w : World) (ob : Obj) : Bool → World → Prop
  | false, W => ∃ m, W = w.drewN m
  | true, W => ∃ m, W = (w.alloc ob).drewN m
def layB (md : Region.Mode) (ops : Array Oper) (n : Nat) : Bool :=
  Region.noSelect ops && (decide (n < ops.size) && (decide (1 ≤ n) && (Region.sinkB md ops n && (Region.chainB md ops n && Region.lexHead md ops (ops.size - n + 1) (n - 1) 0 (Array.replicate ops.size false)))))
theorem wp_quiet_lay {id : Nat} {Q : Exit → Act → World → Prop} {a : Act} {w : World} {l : List Oper} (n : Nat) (hm : P.follows .mixedOrders = true) (hB : layB .any l.toArray n = true) (t : TypeId) (N : Tmp) (cs : Array Value)
    (hz : (P.info? t).map (·.zero) = some (some (.agg cs))) {oe : Oper} (hoe : (l.drop (n - 1)).head? = some oe) (hop : oe.op = .alloc t) (hd : oe.dst = some N) (_hg : oe.guard = none)
    (hw : ∀ tmps, Region.wanted oe (yielded l.toArray tmps) = true)
    (h : wq P l.toArray (Two w (.cells cs t (0, 0))) (fun a' => ∀ m, wpList P l.toArray Q (l.drop n) (a'.put (some N) (.pointer (some ⟨w.heap.size, 0, none⟩))) ((w.alloc (.cells cs t (0, 0))).drewN m)) (l.take (n - 1)) a) : (Code.region id l.toArray true).wp P Q a w := by
  simp only [layB, Bool.and_eq_true, decide_eq_true_eq] at hB
  obtain ⟨hsel, hn, h1n, hs, hc, hlex⟩ := hB
  have hn' : n < l.length := by simpa using hn
  have htl : (l.take (n - 1)).length = n - 1 := by simp; omega
  have hdl : (l.drop n).length = l.toArray.size - n := by simp
  have hoe' : l.toArray[n - 1]? = some oe := by rw [List.head?_drop] at hoe; rw [List.getElem?_toArray]; exact hoe
  have inv0 : HeadInv .any l.toArray n (Array.replicate l.toArray.size false) :=
    ⟨by simp, fun j oj _ hl => (by rw [getD_replicate_false] at hl; cases hl), fun t _ ht => getD_in (by simpa using ht) (getD_replicate_false _ _)⟩
  have H := anyE_lex (md := .any) (e := n - 1) (ve := .pointer (some ⟨w.heap.size, 0, none⟩)) (g := l.toArray.size - n) (C := Two w (.cells cs t (0, 0))) (Lq := fun a' => ∀ m, wpList P l.toArray Q (l.drop n) a' ((w.alloc (.cells cs t (0, 0))).drewN m)) (by omega) hoe' hsel hs hc hn (l.take (n - 1)) 0 _ a (fun j hj => by
    have hj' : j < n - 1 := by rw [htl] at hj; exact hj
    simp [hj']) (by rw [htl]; omega) inv0 (by rw [htl]; exact hlex) (by rw [hd]; exact h)
  refine wp_region_any hm ?_
  have := any_of_headE (Q' := Q) (g := l.toArray.size - n) (fun a' W K hW hK => by
    obtain ⟨m, rfl⟩ := hW
    unfold wpOp
    simp only [hoe']
    rw [if_pos (hw _)]
    have hrun : (execOp a'.eval oe).run P (w.drewN m) = .ok (.value (.pointer (some ⟨w.heap.size, 0, none⟩))) ((w.drewN m).alloc (.cells cs t (0, 0))) := by
      cases hq : P.info? t with
      | none => simp [hq] at hz
      | some i =>
        have hi : i.zero = some (.agg cs) := by simpa [hq] using hz
        unfold execOp
        simp [hop, Instr.alloc, zeroValue, typeInfo, hq, hi, Value.cells, newVar, newRow]
        try rfl
    refine .inl ?_
    unfold Oper.wp
    rw [hrun]
    simp only [Oper.upon]
    exact hK _ ⟨m, rfl⟩) (fun listed a' w' hw' hL => by
    obtain ⟨m, rfl⟩ := hw'
    have := wpAny_of_seq (md := .any) (Q' := Q) (l.drop n) n listed a' _ (fun j => by simp [List.getElem?_drop]) (by rw [hdl]; exact hL.1) (hL.2 m)
    rwa [hdl] at this) _ _ _ _ { w with drawn := w.drawn + 1 } ⟨1, rfl⟩ H
  rw [htl, show n - 1 + 1 + (l.toArray.size - n) = l.toArray.size by omega] at this
  exact this
/-- A step of that walk. -/
theorem wq_step {Lq : Act → Prop} {o : Oper} {l : List Oper} {a : Act} {w : World} {ob : Obj} (v : Value) (hw : Region.wanted o (yielded ops a.tmps) = true)
    (h : ∀ (w0 : World) (m : Nat), Oper.quietUpon P (fun w' => ∃ m, w' = w0.drewN m) (w0.drewN m) v ((execOp a.eval o).run P (w0.drewN m))) (hr : wq P ops (Two w ob) Lq l (a.put o.dst v)) : wq P ops (Two w ob) Lq (o :: l) a := by
  refine ⟨v, fun y => .inl ⟨hw, fun W hW => ?_⟩, hr⟩
  cases y
  · obtain ⟨m, rfl⟩ := hW
    exact h w m
  · obtain ⟨m, rfl⟩ := hW
    exact h _ m
end
end Go.Proofs.Ythoddglnfdmdeaa.Q
set_option linter.unusedVariables false
set_option linter.unusedSimpArgs false
namespace Go.Proofs
open Go.Shelf
def Try.lays169_ren : Go.Shelf.Ren := ⟨fun | 169 => 69 | n => n, fun | 70 => 106 | 9 => 9 | 0 => 0 | 72 => 108 | 37 => 100 | 127 => 128 | 3 => 3 | 5 => 5 | n => n, fun | n => n⟩
theorem Try.lays169 : Go.Proofs.Lays.n169 Try.prog Try.lays169_ren := {
  mixed := by kernel_rfl
  f169 := Try.func69.trans (congrArg some (by kernel_rfl))
  t0 := Try.underlying0
  a0 := Try.isAgg0
  z0 := Try.sizeOf0
  v0 := Try.zeroValue0
  t3 := Try.underlying3
  a3 := Try.isAgg3
  z3 := Try.sizeOf3
  v3 := Try.zeroValue3
  t9 := Try.underlying9
  a9 := Try.isAgg9
  z9 := Try.sizeOf9
  v9 := Try.zeroValue9
  t37 := Try.underlying100
  a37 := Try.isAgg100
  z37 := Try.sizeOf100
  v37 := Try.zeroValue100
  t70 := Try.underlying106
  a70 := Try.isAgg106
  z70 := Try.sizeOf106
  v70 := Try.zeroValue106
  t72 := Try.underlying108
  a72 := Try.isAgg108
  z72 := Try.sizeOf108
  v72 := Try.zeroValue108
  t127 := Try.underlying128
  a127 := Try.isAgg128
  z127 := Try.sizeOf128
  v127 := Try.zeroValue128 }
theorem Try.Builder_Extra_169 : Builder.Extra Try.prog Try.lays169_ren := {
  sizeBuilder := by kernel_rfl
  liesBuilder := by kernel_rfl
  t5 := Try.underlying5
  a5 := Try.isAgg5
  z5 := Try.sizeOf5
  v5 := Try.zeroValue5
  infoByte := by kernel_rfl
  cellsByte := by kernel_rfl
  sizeByte := by kernel_rfl
  neB5 := by decide }
open Go.RowKit in
/-- (*strings.Builder).String: "String returns the accumulated string.": WHATEVER THE BUILDER HOLDS. (LAID: no walk: one application.) -/
theorem Try.Builder_String_any (B b : Nat) (l : List UInt8) (w : World) (h : Lib.IsBuilder 108 5 B b (Lib.byteCells l) w) (hBw : B ≤ w.heap.size) :
    Calls Try.prog 69 #[.pointer (some ⟨b, 0, none⟩)] w fun e w' => e = .returned (.string ⟨l.toArray⟩) ∧ Below B w w' := Any.Builder_String_any Try.lays169 Try.Builder_Extra_169 B b l w h hBw
def Try.lays105_ren : Go.Shelf.Ren := ⟨fun | 105 => 51 | 212 => 64 | 99 => 65 | 165 => 66 | 166 => 67 | 170 => 68 | 169 => 69 | 263 => 77 | 264 => 78 | 206 => 79 | 240 => 80 | 241 => 81 | 276 => 85 | 277 => 86 | n => n, fun | 9 => 9 | 3 => 3 | 4 => 4 | 20 => 20 | 0 => 0 | 46 => 102 | 109 => 103 | 5 => 5 | 72 => 108 | 76 => 112 | 51 => 122 | 146 => 123 | 53 => 125 | 148 => 126 | 70 => 106 | 37 => 100 | 75 => 111 | 127 => 128 | 164 => 134 | 80 => 114 | n => n, fun | n => n⟩
theorem Try.lays105 : Go.Proofs.Lays.n105 Try.prog Try.lays105_ren := {
  mixed := by kernel_rfl
  f99 := Try.func65.trans (congrArg some (by kernel_rfl))
  f105 := Try.func51.trans (congrArg some (by kernel_rfl))
  f165 := Try.func66.trans (congrArg some (by kernel_rfl))
  f166 := Try.func67.trans (congrArg some (by kernel_rfl))
  f169 := Try.func69.trans (congrArg some (by kernel_rfl))
  f170 := Try.func68.trans (congrArg some (by kernel_rfl))
  f206 := Try.func79.trans (congrArg some (by kernel_rfl))
  f212 := Try.func64.trans (congrArg some (by kernel_rfl))
  f240 := Try.func80.trans (congrArg some (by kernel_rfl))
  f241 := Try.func81.trans (congrArg some (by kernel_rfl))
  f263 := Try.func77.trans (congrArg some (by kernel_rfl))
  f264 := Try.func78.trans (congrArg some (by kernel_rfl))
  f276 := Try.func85.trans (congrArg some (by kernel_rfl))
  f277 := Try.func86.trans (congrArg some (by kernel_rfl))
  t0 := Try.underlying0
  a0 := Try.isAgg0
  z0 := Try.sizeOf0
  v0 := Try.zeroValue0
  t3 := Try.underlying3
  a3 := Try.isAgg3
  z3 := Try.sizeOf3
  v3 := Try.zeroValue3
  t4 := Try.underlying4
  a4 := Try.isAgg4
  z4 := Try.sizeOf4
  v4 := Try.zeroValue4
  t5 := Try.underlying5
  a5 := Try.isAgg5
  z5 := Try.sizeOf5
  v5 := Try.zeroValue5
  t9 := Try.underlying9
  a9 := Try.isAgg9
  z9 := Try.sizeOf9
  v9 := Try.zeroValue9
  t20 := Try.underlying20
  a20 := Try.isAgg20
  z20 := Try.sizeOf20
  v20 := Try.zeroValue20
  t37 := Try.underlying100
  a37 := Try.isAgg100
  z37 := Try.sizeOf100
  v37 := Try.zeroValue100
  t46 := Try.underlying102
  a46 := Try.isAgg102
  z46 := Try.sizeOf102
  v46 := Try.zeroValue102
  t51 := Try.underlying122
  a51 := Try.isAgg122
  z51 := Try.sizeOf122
  v51 := Try.zeroValue122
  t53 := Try.underlying125
  a53 := Try.isAgg125
  z53 := Try.sizeOf125
  v53 := Try.zeroValue125
  t70 := Try.underlying106
  a70 := Try.isAgg106
  z70 := Try.sizeOf106
  v70 := Try.zeroValue106
  t72 := Try.underlying108
  a72 := Try.isAgg108
  z72 := Try.sizeOf108
  v72 := Try.zeroValue108
  t75 := Try.underlying111
  a75 := Try.isAgg111
  z75 := Try.sizeOf111
  v75 := Try.zeroValue111
  t76 := Try.underlying112
  a76 := Try.isAgg112
  z76 := Try.sizeOf112
  v76 := Try.zeroValue112
  t109 := Try.underlying103
  a109 := Try.isAgg103
  z109 := Try.sizeOf103
  v109 := Try.zeroValue103
  t127 := Try.underlying128
  a127 := Try.isAgg128
  z127 := Try.sizeOf128
  v127 := Try.zeroValue128
  t146 := Try.underlying123
  a146 := Try.isAgg123
  z146 := Try.sizeOf123
  v146 := Try.zeroValue123
  t148 := Try.underlying126
  a148 := Try.isAgg126
  z148 := Try.sizeOf126
  v148 := Try.zeroValue126
  t164 := Try.underlying134
  a164 := Try.isAgg134
  z164 := Try.sizeOf134
  v164 := Try.zeroValue134 }
theorem Try.Builder_Extra_105 : Builder.Extra Try.prog Try.lays105_ren := {
  sizeBuilder := by kernel_rfl
  liesBuilder := by kernel_rfl
  t5 := Try.underlying5
  a5 := Try.isAgg5
  z5 := Try.sizeOf5
  v5 := Try.zeroValue5
  infoByte := by kernel_rfl
  cellsByte := by kernel_rfl
  sizeByte := by kernel_rfl
  neB5 := by decide }
open Go.RowKit Go.Lib in
/-- **strings.Repeat: count ≥ 0, the result within one allocation: count copies of s.** (LAID: no walk: one application.) -/
theorem Try.strings_Repeat (s : ByteArray) (c : Nat) (w : World) (hc : c ≤ 9223372036854775807) (hlen : s.size * c ≤ 140737488355328) :
    Calls Try.prog 51 #[.string s, .int .i64 c] w fun e w' => e = .returned (.string ⟨(Lib.repeatL s.data.toList c).toArray⟩) ∧ Below w.heap.size w w' := Any.strings_Repeat Try.lays105 Try.Builder_Extra_105 s c w hc hlen
end Go.Proofs
