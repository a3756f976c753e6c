/- A range over a function whose iterator keeps a captured variable in a cell of its own: the statement, once. No program in sight. -/
import Derived.RangeFuncNested
import Derived.RangeFuncBound
import Derived.RangeFuncCalls
import Derived.RangeFuncLeaves
import Derived.RangeFuncKeeps
import Derived.OwnWalkIn
import Derived.TacticsInMore
import Derived.LoopNIn
import Derived.LoopIn
import Derived.WalkKit
import Derived.Below
import Derived.Test.YthoddglnfdmdeaaZJSWWords
import Derived.Laws.Rows
import Derived.Deep.MidRow
set_option linter.unusedVariables false
set_option linter.unusedSimpArgs false
namespace Go.Proofs.Ythoddglnfdmdeaa.Rg
open Go Go.RowKit
/-- What two things abide: new memory, and a turn of the captured cell. -/
structure Calm {α : Type} (B : Nat) (J : List α → World → Prop) : Prop where
  grow : ∀ {pre : List α} {W W' : World}, J pre W → Below W.heap.size W W' → J pre W'
  cell : ∀ {pre : List α} {W : World} (v : Value), J pre W → J pre (W.setCell ⟨B, 0, none⟩ v)
/-- The iterator over the list xs: its captured cell is block B; ok tells what it asks of the world. -/
def Iter {α : Type} (P : Program) (n : Nat) (gf : Nat) (lb : Array Value) (encs : α → Array Value) (xs : List α) (B : Nat) (keep : Nat → Prop) (ok : World → Prop) : Prop :=
  ∀ (l : Nat) (J Jx : List α → World → Prop) (W : World), ok W → Calm B J → Calm B Jx →
    (∀ (pre : List α) (x : α) (post : List α) (W1 : World), xs = pre ++ x :: post → J pre W1 → YieldAt Fence.wide n P l (encs x) W1 fun e W' =>
      (e = .returned (.bool true) ∧ J (pre ++ [x]) W' ∧ ∀ k, keep k → W'.heap[k]? = W1.heap[k]?) ∨ (e = .returned (.bool false) ∧ Jx (pre ++ [x]) W')) →
    J [] W →
    CallsIn Fence.wide (n + 1) P gf (#[.func (.yield l) #[] #[]] ++ lb) W fun e W' => (∃ v, e = .returned v) ∧ (J xs W' ∨ ∃ pre x post, xs = pre ++ x :: post ∧ Jx (pre ++ [x]) W')
/-- How a round may end: it goes on, or it returns. -/
def endsP {α : Type} (keep : Nat → Prop) (I Ix : List α → World → Prop) (ys : List α) (W : World) : Exit → Act → World → Prop
  | .normal, _, W' => KeepsOthers W W' ∧ (∀ k, keep k → W'.heap[k]? = W.heap[k]?) ∧ I ys W'
  | .ret, _, W' => KeepsOthers W W' ∧ Ix ys W'
  | _, _, _ => False
/-- What the caller says of the world abides the loop's own book-keeping. -/
def Books {α : Type} (K : Nat) (J : List α → World → Prop) : Prop := ∀ {pre : List α} {W : World} (k : Nat) (o : Obj), K ≤ k → J pre W → (∃ o', W.heap[k]? = some o' ∧ o'.isCells = false) → J pre (W.putObj k o)
theorem heap_lt {W : World} {k : Nat} {o : Obj} (h : W.heap[k]? = some o) : k < W.heap.size := (Array.getElem?_eq_some_iff.1 h).1
theorem held_grow {W W' : World} {k : Nat} {o : Obj} (h : W.heap[k]? = some o) (hb : Below W.heap.size W W') : W'.heap[k]? = some o := (hb.block k (heap_lt h)).trans h
theorem held_cell {W : World} {k B : Nat} {o : Obj} (h : W.heap[k]? = some o) (hk : k ≠ B) (v : Value) : (W.setCell ⟨B, 0, none⟩ v).heap[k]? = some o := (Below.heap_setCell W ⟨B, 0, none⟩ v k hk).trans h
theorem put_below {w W : World} {k : Nat} (o : Obj) (h : Below w.heap.size w W) (hk : w.heap.size ≤ k) : Below w.heap.size w (W.putObj k o) :=
  h.trans ((Below.refl w.heap.size W).grown (grownBy_putObj' W k o) h.size (fun j e => by cases e; exact hk))
end Go.Proofs.Ythoddglnfdmdeaa.Rg
set_option linter.unusedVariables false
set_option linter.unusedSimpArgs false
namespace Go.Proofs.Ythoddglnfdmdeaa.Pl
open Go.RowKit Go.Proofs.YthoddglnfdmdeaaW.PrintWords
theorem w64 {x : Int} (h1 : -9223372036854775808 ≤ x) (h2 : x ≤ 9223372036854775807) : wrap64 x = x := by unfold wrap64; omega
theorem tmod_pos {x : Int} (h : 0 ≤ x) (m : Int) : Int.tmod x m = x % m := Int.tmod_eq_emod_of_nonneg h
theorem tdiv_pos {x : Int} (h : 0 ≤ x) (m : Int) : Int.tdiv x m = x / m := Int.tdiv_eq_ediv_of_nonneg h
/-- A string's bytes as numbers. -/
def bs (s : ByteArray) : List Int := s.data.toList.map (fun c => (c.toNat : Int))
theorem bs_length (s : ByteArray) : (bs s).length = s.size := by simp [bs]
theorem bs_append (a b : ByteArray) : bs (a ++ b) = bs a ++ bs b := by simp [bs]
theorem bt_bs (s : ByteArray) (i : Nat) (h : i < s.size) : bt s (i : Int) = (bs s)[i]'(by rw [bs_length]; exact h) := by
  have e : (i : Int).toNat = i := rfl
  unfold bt
  rw [dif_pos (by rw [e]; exact h)]
  simp only [bs, List.getElem_map, Array.getElem_toList]
  rfl
theorem bs_drop (s : ByteArray) (i : Nat) (h : i < s.size) : (bs s).drop i = bt s (i : Int) :: (bs s).drop (i + 1) := by
  rw [bt_bs s i h]
  exact List.drop_eq_getElem_cons (by rw [bs_length]; exact h)
theorem bs_inj {a b : ByteArray} (h : bs a = bs b) : a = b := by
  have : a.data.toList = b.data.toList := by
    simp only [bs] at h
    refine List.map_inj_right (f := fun c : UInt8 => (c.toNat : Int)) ?_ |>.1 h
    intro x y hxy
    exact UInt8.toNat_inj.1 (by omega)
  cases a; cases b
  congr
  exact Array.toList_inj.1 this
theorem bs_strOfNums (l : List Int) (h : ∀ c ∈ l, 0 ≤ c ∧ c ≤ 255) : bs (strOfNums l) = l := by
  simp only [bs, strOfNums, List.map_map]
  conv => rhs; rw [← List.map_id l]
  refine List.map_congr_left ?_
  intro c hc
  have := h c hc
  simp only [Function.comp, UInt8.toNat_ofNat', id]
  omega
end Go.Proofs.Ythoddglnfdmdeaa.Pl
set_option linter.unusedVariables false
set_option linter.unusedSimpArgs false
set_option linter.unusedSimpArgs false
namespace Go.Proofs.Ythoddglnfdmdeaa.P
open Go Go.RowKit Go.Proofs.YthoddglnfdmdeaaW.PrintWords
section
variable {P : Program} {ops : Array Oper} {rest : List Oper} {o : Oper} {a : Act} {Q : Exit → Act → World → Prop}
theorem box_lay {W : World} (N : Tmp) (hd : o.dst = some N) (hgd : o.guard = none) (t : TypeId) (ho : o.op = .alloc t) (cs : Array Value) (hz : (P.info? t).map (·.zero) = some (some (.agg cs)))
    (h : ∀ g, Aside0 (g = W.heap.size) → ∀ w1, Aside0 (w1.heap[g]? = some (.cells cs t (0, 0))) → Aside0 (Below W.heap.size W w1) → wpList P ops Q rest (a.put (some N) (.pointer (some ⟨g, 0, none⟩))) w1) : wpList P ops Q (o :: rest) a W := by
  have hrun : (execOp a.eval o).run P W = .ok (.value (.pointer (some ⟨W.heap.size, 0, none⟩))) (W.alloc (.cells cs t (0, 0))) := by
    cases hq : P.info? t with
    | none => simp [hq] at hz
    | some i =>
      have hi : i.zero = some (.agg cs) := by simpa [hq] using hz
      unfold execOp
      simp [ho, Instr.alloc, zeroValue, typeInfo, hq, hi, Value.cells, newVar, newRow]
  refine Kd.event_run hgd hrun ?_
  rw [hd]
  exact h _ ⟨rfl⟩ _ ⟨_root_.Go.heap_alloc_new W _⟩ ⟨(Below.refl _ _).alloc (Nat.le_refl _) _⟩
/-- A whole struct stored into a block of one's own. -/
theorem box_put {W : World} (hd : o.dst = none) (hgd : o.guard = none) (t : TypeId) (x y : Operand) (ho : o.op = .store t x y) (g : Nat) (old new : Array Value) (hx : a.eval x = .pointer (some ⟨g, 0, none⟩))
    (hy : a.eval y = .agg new) (hr : W.heap[g]? = some (.cells old t (0, 0))) (h1' : new.toList.all (·.oneCell') = true) (hl : old.size = new.size) (hi : (P.info? t).map (·.size) = some new.size)
    (h : ∀ w1, Aside0 (w1.heap[g]? = some (.cells new t (0, 0))) → Aside0 (Below g W w1) → Aside0 (∀ k, k ≠ g → w1.heap[k]? = W.heap[k]?) → Aside0 (w1.heap.size = W.heap.size) → wpList P ops Q rest (a.put none undef) w1) : wpList P ops Q (o :: rest) a W := by
  have h1 : new.all (·.oneCell') = true := by rw [← Array.all_toList]; exact h1'
  have hs := setCells_same g new.toList 0 W
  have ht : W.there g 0 new.size := fun j hj => by
    rw [Nat.zero_add]
    refine ⟨?_, blk_frozen hr j⟩
    rw [blk_cell hr j, Array.getElem?_eq_getElem (by omega)]
    rfl
  refine wpList_store_mid hgd t x y ho g 0 new hx hy ht hi h1 ?_
  rw [hd]
  obtain ⟨cur', h3, h4, h5⟩ := setCells_row new.toList 0 W _ hr (by rw [Nat.zero_add, Array.length_toList]; omega)
  refine h _ ⟨?_⟩ ⟨⟨hs.1, hs.2.1, hs.2.2.1, by rw [hs.2.2.2]; exact Nat.le_refl _, fun k hk => setCells_far _ 0 k (by omega)⟩⟩ ⟨fun k hk => setCells_far _ 0 k hk⟩ ⟨hs.2.2.2⟩
  rw [h3]
  congr 2
  apply Array.toList_inj.mp
  rw [h5]
  have : old.toList.drop (0 + new.toList.length) = [] := by
    rw [List.drop_eq_nil_of_le]
    rw [Array.length_toList, Array.length_toList]; omega
  rw [this]
  simp
end
end Go.Proofs.Ythoddglnfdmdeaa.P
