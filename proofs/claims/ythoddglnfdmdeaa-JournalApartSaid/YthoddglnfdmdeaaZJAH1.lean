/- A range over a function whose iterator keeps a captured variable in a cell of its own: the statement, once. No program in sight. -/
import Derived.RangeFuncNested
import Derived.RangeFuncBound
import Derived.RangeFuncCalls
import Derived.RangeFuncLeaves
import Derived.RangeFuncKeeps
import Derived.OwnWalkIn
import Derived.TacticsInMore
import Derived.LoopNIn
import Derived.LoopIn
import Derived.WalkKit
import Derived.Below
import Derived.Test.YthoddglnfdmdeaaZJAWWords
set_option linter.unusedVariables false
set_option linter.unusedSimpArgs false
namespace Go.Proofs.Ythoddglnfdmdeaa.Rg
open Go Go.RowKit
/-- What two things abide: new memory, and a turn of the captured cell. -/
structure Calm {α : Type} (B : Nat) (J : List α → World → Prop) : Prop where
  grow : ∀ {pre : List α} {W W' : World}, J pre W → Below W.heap.size W W' → J pre W'
  cell : ∀ {pre : List α} {W : World} (v : Value), J pre W → J pre (W.setCell ⟨B, 0, none⟩ v)
/-- The iterator over the list xs: its captured cell is block B; ok tells what it asks of the world. -/
def Iter {α : Type} (P : Program) (n : Nat) (gf : Nat) (lb : Array Value) (encs : α → Array Value) (xs : List α) (B : Nat) (keep : Nat → Prop) (ok : World → Prop) : Prop :=
  ∀ (l : Nat) (J Jx : List α → World → Prop) (W : World), ok W → Calm B J → Calm B Jx →
    (∀ (pre : List α) (x : α) (post : List α) (W1 : World), xs = pre ++ x :: post → J pre W1 → YieldAt Fence.wide n P l (encs x) W1 fun e W' =>
      (e = .returned (.bool true) ∧ J (pre ++ [x]) W' ∧ ∀ k, keep k → W'.heap[k]? = W1.heap[k]?) ∨ (e = .returned (.bool false) ∧ Jx (pre ++ [x]) W')) →
    J [] W →
    CallsIn Fence.wide (n + 1) P gf (#[.func (.yield l) #[] #[]] ++ lb) W fun e W' => (∃ v, e = .returned v) ∧ (J xs W' ∨ ∃ pre x post, xs = pre ++ x :: post ∧ Jx (pre ++ [x]) W')
/-- How a round may end: it goes on, or it returns. -/
def endsP {α : Type} (keep : Nat → Prop) (I Ix : List α → World → Prop) (ys : List α) (W : World) : Exit → Act → World → Prop
  | .normal, _, W' => KeepsOthers W W' ∧ (∀ k, keep k → W'.heap[k]? = W.heap[k]?) ∧ I ys W'
  | .ret, _, W' => KeepsOthers W W' ∧ Ix ys W'
  | _, _, _ => False
/-- What the caller says of the world abides the loop's own book-keeping. -/
def Books {α : Type} (K : Nat) (J : List α → World → Prop) : Prop := ∀ {pre : List α} {W : World} (k : Nat) (o : Obj), K ≤ k → J pre W → (∃ o', W.heap[k]? = some o' ∧ o'.isCells = false) → J pre (W.putObj k o)
theorem heap_lt {W : World} {k : Nat} {o : Obj} (h : W.heap[k]? = some o) : k < W.heap.size := (Array.getElem?_eq_some_iff.1 h).1
theorem held_grow {W W' : World} {k : Nat} {o : Obj} (h : W.heap[k]? = some o) (hb : Below W.heap.size W W') : W'.heap[k]? = some o := (hb.block k (heap_lt h)).trans h
theorem held_cell {W : World} {k B : Nat} {o : Obj} (h : W.heap[k]? = some o) (hk : k ≠ B) (v : Value) : (W.setCell ⟨B, 0, none⟩ v).heap[k]? = some o := (Below.heap_setCell W ⟨B, 0, none⟩ v k hk).trans h
theorem put_below {w W : World} {k : Nat} (o : Obj) (h : Below w.heap.size w W) (hk : w.heap.size ≤ k) : Below w.heap.size w (W.putObj k o) :=
  h.trans ((Below.refl w.heap.size W).grown (grownBy_putObj' W k o) h.size (fun j e => by cases e; exact hk))
end Go.Proofs.Ythoddglnfdmdeaa.Rg
set_option linter.unusedVariables false
set_option linter.unusedSimpArgs false
namespace Go.Proofs.Ythoddglnfdmdeaa.Pl
open Go.RowKit Go.Proofs.YthoddglnfdmdeaaW.PrintWords
theorem w64 {x : Int} (h1 : -9223372036854775808 ≤ x) (h2 : x ≤ 9223372036854775807) : wrap64 x = x := by unfold wrap64; omega
theorem tmod_pos {x : Int} (h : 0 ≤ x) (m : Int) : Int.tmod x m = x % m := Int.tmod_eq_emod_of_nonneg h
theorem tdiv_pos {x : Int} (h : 0 ≤ x) (m : Int) : Int.tdiv x m = x / m := Int.tdiv_eq_ediv_of_nonneg h
/-- A string's bytes as numbers. -/
def bs (s : ByteArray) : List Int := s.data.toList.map (fun c => (c.toNat : Int))
theorem bs_length (s : ByteArray) : (bs s).length = s.size := by simp [bs]
theorem bt_bs (s : ByteArray) (i : Nat) (h : i < s.size) : bt s (i : Int) = (bs s)[i]'(by rw [bs_length]; exact h) := by
  have e : (i : Int).toNat = i := rfl
  unfold bt
  rw [dif_pos (by rw [e]; exact h)]
  simp only [bs, List.getElem_map, Array.getElem_toList]
  rfl
theorem bs_drop (s : ByteArray) (i : Nat) (h : i < s.size) : (bs s).drop i = bt s (i : Int) :: (bs s).drop (i + 1) := by
  rw [bt_bs s i h]
  exact List.drop_eq_getElem_cons (by rw [bs_length]; exact h)
end Go.Proofs.Ythoddglnfdmdeaa.Pl
