/- disk.filled: bytes, and bytes 0 up to a sector; by the shelf's contract of strings.Repeat. -/
import Derived.Test.YthoddglnfdmdeaaZJSH0
import Derived.Test.YthoddglnfdmdeaaZJSM0
namespace Go.Proofs.Ythoddglnfdmdeaa.P
open Go.RowKit Go.Proofs.YthoddglnfdmdeaaW.PrintWords Go.Proofs.YthoddglnfdmdeaaW.PrintLast Go.Proofs.YthoddglnfdmdeaaW.PrintMore
set_option linter.unusedVariables false
set_option linter.unusedSimpArgs false
def zerosB (n : Nat) : ByteArray := ⟨(List.replicate n (0 : UInt8)).toArray⟩
def disk_filled.f (a0 : ByteArray) : Option (ByteArray) := if a0.size ≤ 32 then some (a0 ++ zerosB (32 - a0.size)) else none
theorem zerosB_size (n : Nat) : (zerosB n).size = n := by
  show (List.replicate n (0 : UInt8)).toArray.size = n
  rw [List.size_toArray, List.length_replicate]
theorem repeat_zero (n : Nat) : Lib.repeatL [(0 : UInt8)] n = List.replicate n 0 := by
  induction n with
  | zero => rfl
  | succ n ih => rw [List.replicate_succ, ← ih]; rfl
set_option maxHeartbeats 800000 in
theorem disk_filled.calls (a0 : ByteArray) (r : ByteArray) (w : World) (h : disk_filled.f a0 = some r) :
    Calls Try.prog 31 #[.string a0] w fun e w' => e = .returned (.string r) ∧ Below w.heap.size w w' := by
  unfold disk_filled.f at h
  by_cases c : a0.size ≤ 32
  · rw [if_pos c] at h
    obtain rfl := Option.some.inj h
    have hh : (32 : Int) - (a0.size : Int) = ((32 - a0.size : Nat) : Int) := by omega
    have hc1 : 32 - a0.size ≤ 9223372036854775807 := by omega
    have hc2 : (⟨#[0]⟩ : ByteArray).size * (32 - a0.size) ≤ 140737488355328 := by
      show 1 * (32 - a0.size) ≤ _
      omega
    have HR : ∀ w1, Calls Try.prog 51 #[.string ⟨#[0]⟩, .int .i64 ((32 : Int) - (a0.size : Int))] w1 fun e w' => e = .returned (.string (zerosB (32 - a0.size))) ∧ Below w1.heap.size w1 w' := by
      intro w1
      rw [hh]
      refine (Try.strings_Repeat ⟨#[0]⟩ (32 - a0.size) w1 hc1 hc2).mono ?_
      rintro e w' ⟨rfl, hb⟩
      refine ⟨?_, hb⟩
      show Ending.returned (.string ⟨(Lib.repeatL [(0 : UInt8)] (32 - a0.size)).toArray⟩) = _
      rw [repeat_zero]
      rfl
    have HB := Aside0.mk HR
    have hz : (zerosB (32 - a0.size)).size = 32 - a0.size := zerosB_size _
    have hle : a0.size + (zerosB (32 - a0.size)).size ≤ 9223372036854775807 := by omega
    clear hh hc1 hc2 HR hz
    generalize zerosB (32 - a0.size) = z at *
    go_enter Try.func31, Try.ntmps31
    go_wp2_with (go_at_call 51; refine (HB.out _).mono ?_; rintro e w' ⟨rfl, hb⟩)
    go_ret
    exact ⟨rfl, hb⟩
  · rw [if_neg c] at h
    cases h
end Go.Proofs.Ythoddglnfdmdeaa.P
set_option linter.unusedVariables false
set_option linter.unusedSimpArgs false
namespace Go.Proofs.Ythoddglnfdmdeaa.P
open Go.RowKit Go.Proofs.YthoddglnfdmdeaaW.PrintWords Go.Proofs.YthoddglnfdmdeaaW.PrintLast Go.Proofs.YthoddglnfdmdeaaW.PrintMore
theorem rdOf_drop {l : List ByteArray} {i : Nat} {x : ByteArray} {r : List ByteArray} (h : l.drop i = x :: r) : rdOf ByteArray.empty l (i : Int) = x ∧ i < l.length ∧ l.drop (i + 1) = r := by
  have hi : i < l.length := by
    apply Nat.lt_of_not_le
    intro c
    rw [List.drop_eq_nil_iff.2 c] at h; cases h
  rw [List.drop_eq_getElem_cons hi] at h
  have h1 := (List.cons.inj h).1
  have h2 := (List.cons.inj h).2
  refine ⟨?_, hi, h2⟩
  unfold rdOf
  rw [Int.toNat_natCast, List.getD_eq_getElem?_getD, List.getElem?_eq_getElem hi]
  exact h1
theorem rdW_drop {l : List S29} {i : Nat} {x : S29} {r : List S29} (h : l.drop i = x :: r) : rd_T29 l (i : Int) = x ∧ i < l.length ∧ l.drop (i + 1) = r := by
  have hi : i < l.length := by
    apply Nat.lt_of_not_le
    intro c
    rw [List.drop_eq_nil_iff.2 c] at h; cases h
  rw [List.drop_eq_getElem_cons hi] at h
  have h1 := (List.cons.inj h).1
  have h2 := (List.cons.inj h).2
  refine ⟨?_, hi, h2⟩
  unfold rd_T29
  rw [Int.toNat_natCast, List.getD_eq_getElem?_getD, List.getElem?_eq_getElem hi]
  exact h1
theorem wsucc (i : Nat) (h : i < 9223372036854775807) : wrap64 ((i : Int) + 1) = ((i + 1 : Nat) : Int) := by unfold wrap64; omega
/-- Has a disk's write a place, and is it a sector? -/
def okW (n : Nat) (x : S29) : Bool := decide (0 ≤ x.f0) && (decide (x.f0 < (n : Int)) && decide (x.f1.size = 32))
def secB (x : ByteArray) : Bool := decide (x.size = 32)
def mayB (s : List ByteArray) (c : List S29) : Bool := decide (1 ≤ s.length) && (decide (s.length ≤ 512) && (s.all secB && c.all (okW s.length)))
theorem is_f (s : List ByteArray) (c : List S29) (a : Int) : disk_is.f s c a = some (decide (0 ≤ a) && decide (a < (s.length : Int))) := by
  unfold disk_is.f
  by_cases h : a ≥ 0
  · rw [if_pos h, decide_eq_true (show (0 : Int) ≤ a from h), Bool.true_and]
  · rw [if_neg h, decide_eq_false (show ¬ (0 : Int) ≤ a from h), Bool.false_and]
theorem may_l1 (s : List ByteArray) (c : List S29) (hc : c.length ≤ 9223372036854775807) : ∀ (r : List S29) (i k : Nat), c.drop i = r → i ≤ c.length → r.length + 2 ≤ k →
    disk_May.l1 k c (c.length : Int) (i : Int) s c = some (r.all (okW s.length))
  | [], i, k, hr, hi, hk => by
    obtain ⟨k, rfl⟩ : ∃ k', k = k' + 1 := ⟨k - 1, by omega⟩
    have : i = c.length := by have := List.drop_eq_nil_iff.1 hr; omega
    subst this
    rw [disk_May.l1, if_neg (by omega)]; rfl
  | x :: r, i, k, hr, hi, hk => by
    obtain ⟨k, rfl⟩ : ∃ k', k = k' + 1 := ⟨k - 1, by omega⟩
    obtain ⟨hx, hlt, hd⟩ := rdW_drop hr
    have hk' : r.length + 2 ≤ k := by rw [List.length_cons] at hk; omega
    have ih := may_l1 s c hc r (i + 1) k hd (by omega) hk'
    rw [disk_May.l1, if_pos (by omega), if_pos (by omega), if_pos (by omega), hx, wsucc i (by omega), is_f, ih, List.all_cons]
    simp only [Option.bind_some]
    unfold okW
    by_cases h1 : (0 : Int) ≤ x.f0 <;> by_cases h2 : x.f0 < (s.length : Int) <;> by_cases h3 : x.f1.size = 32 <;> simp [h1, h2, h3] <;> omega
theorem may_l0 (s : List ByteArray) (c : List S29) (hs : s.length ≤ 9223372036854775807) (hc : c.length ≤ 9223372036854775807) : ∀ (r : List ByteArray) (i k : Nat), s.drop i = r → i ≤ s.length → r.length + c.length + 4 ≤ k →
    disk_May.l0 k s (s.length : Int) (i : Int) s c = some (r.all secB && c.all (okW s.length))
  | [], i, k, hr, hi, hk => by
    obtain ⟨k, rfl⟩ : ∃ k', k = k' + 1 := ⟨k - 1, by omega⟩
    have : i = s.length := by have := List.drop_eq_nil_iff.1 hr; omega
    subst this
    have h1 := may_l1 s c hc c 0 k rfl (Nat.zero_le _) (by simp at hk; omega)
    rw [Int.natCast_zero] at h1
    rw [disk_May.l0, if_neg (by omega), h1]; rfl
  | x :: r, i, k, hr, hi, hk => by
    obtain ⟨k, rfl⟩ : ∃ k', k = k' + 1 := ⟨k - 1, by omega⟩
    obtain ⟨hx, hlt, hd⟩ := rdOf_drop hr
    have hk' : r.length + c.length + 4 ≤ k := by rw [List.length_cons] at hk; omega
    have ih := may_l0 s c hs hc r (i + 1) k hd (by omega) hk'
    rw [disk_May.l0, if_pos (by omega), if_pos (by omega), if_pos (by omega), hx, wsucc i (by omega), ih, List.all_cons]
    unfold secB
    by_cases h3 : x.size = 32
    · rw [if_pos (by omega)]; simp [h3]
    · rw [if_neg (by omega)]; simp [h3]
theorem may_f (s : List ByteArray) (c : List S29) (hs : s.length ≤ 9223372036854775807) (hc : c.length ≤ 9223372036854775807) (k : Nat) (hk : s.length + c.length + 6 ≤ k) : disk_May.f k s c = some (mayB s c) := by
  obtain ⟨k, rfl⟩ : ∃ k', k = k' + 1 := ⟨k - 1, by omega⟩
  have h := may_l0 s c hs hc s 0 k rfl (Nat.zero_le _) (by omega)
  rw [Int.natCast_zero] at h
  unfold disk_May.f mayB
  by_cases h1 : (s.length : Int) < 1
  · rw [if_pos h1, disk_May.j0, if_pos rfl, decide_eq_false (show ¬ 1 ≤ s.length by omega), Bool.false_and]
  · rw [if_neg h1, decide_eq_true (show 1 ≤ s.length by omega), Bool.true_and, disk_May.j0, h]
    by_cases h2 : (s.length : Int) > 512
    · rw [decide_eq_true h2, if_pos rfl, decide_eq_false (show ¬ s.length ≤ 512 by omega), Bool.false_and]
    · rw [decide_eq_false h2, if_neg (by decide), decide_eq_true (show s.length ≤ 512 by omega), Bool.true_and]
/-- May, by what it tells. -/
theorem may_any (A0 : Option Addr) (c0 : Nat) (s : List ByteArray) (A1 : Option Addr) (c1 : Nat) (c : List S29) (w : World) (h0 : Kd.C Kd.string w A0 s.length s) (g0 : s.length ≤ c0) (h1 : Kd.C k29 w A1 c.length c) (g1 : c.length ≤ c1) :
    Calls Try.prog 29 #[.agg #[.slice A0 s.length c0, .slice A1 c.length c1]] w fun e w' => e = .returned (.bool (mayB s c)) ∧ Below w.heap.size w w' :=
  disk_May.calls _ A0 c0 s A1 c1 c _ w h0 g0 h1 g1 (may_f s c h0.2.1 h1.2.1 _ (Nat.le_refl _))
theorem is_any (A0 : Option Addr) (c0 : Nat) (s : List ByteArray) (A1 : Option Addr) (c1 : Nat) (c : List S29) (a : Int) (w : World) (h0 : Kd.C Kd.string w A0 s.length s) (g0 : s.length ≤ c0) (h1 : Kd.C k29 w A1 c.length c) (g1 : c.length ≤ c1) :
    Calls Try.prog 30 #[.agg #[.slice A0 s.length c0, .slice A1 c.length c1], .int .i64 a] w fun e w' => e = .returned (.bool (decide (0 ≤ a) && decide (a < (s.length : Int)))) ∧ Below w.heap.size w w' :=
  disk_is.calls A0 c0 s A1 c1 c a _ w h0 g0 h1 g1 (is_f s c a)
theorem mayB_sec {s : List ByteArray} {c : List S29} (h : mayB s c = true) : 1 ≤ s.length ∧ s.length ≤ 512 ∧ ∀ x ∈ s, x.size = 32 := by
  unfold mayB at h
  simp only [Bool.and_eq_true, decide_eq_true_eq, List.all_eq_true] at h
  exact ⟨h.1, h.2.1, fun x hx => by simpa [secB] using h.2.2.1 x hx⟩
theorem mayB_wr {s : List ByteArray} {c : List S29} (h : mayB s c = true) : ∀ x ∈ c, 0 ≤ x.f0 ∧ x.f0 < (s.length : Int) ∧ x.f1.size = 32 := by
  unfold mayB at h
  simp only [Bool.and_eq_true, decide_eq_true_eq, List.all_eq_true] at h
  intro x hx
  simpa [okW] using h.2.2.2 x hx
end Go.Proofs.Ythoddglnfdmdeaa.P
set_option linter.unusedVariables false
set_option linter.unusedSimpArgs false
namespace Go.Proofs.Ythoddglnfdmdeaa.P
open Go.RowKit Go.Proofs.YthoddglnfdmdeaaW.PrintWords Go.Proofs.YthoddglnfdmdeaaW.PrintLast Go.Proofs.YthoddglnfdmdeaaW.PrintMore
section
variable {α : Type} {d : Kd α} {e base g g' : Nat} {ok : Nat → Prop} {v : Value} {xs : List α} {w W W' w1 : World} {o : Obj}
theorem zq (_ : Aside0 (Below w.heap.size w W)) (h : Below W.heap.size W W') (_ : Below W'.heap.size W' w1) : Below W.heap.size W W' := h
theorem zB (h : Aside0 (W.heap[g]? = some o)) (hb : Below W.heap.size W w1) : Aside0 (w1.heap[g]? = some o) := ⟨blk_below h.out hb⟩
theorem zR (h : Aside0 (Kd.R d e W base ok v xs)) (hb : Below W.heap.size W w1) : Aside0 (Kd.R d e w1 base ok v xs) := ⟨Kd.R_below h.out hb⟩
theorem zV (h : Aside0 (Kd.V d e W base ok v xs)) (hb : Below W.heap.size W w1) : Aside0 (Kd.V d e w1 base ok v xs) := ⟨Kd.V_below h.out hb⟩
theorem zE (h : Aside0 (Kd.V d e W base ok v xs)) (hn : Below W.heap.size W W') (hg : g = W'.heap.size) (hb : Below W.heap.size W w1) : Aside0 (Kd.V d e w1 base (fun k => ok k ∧ k ≠ g) v xs) :=
  ⟨Kd.V_below (Kd.V_elderB h.out g (by rw [hg]; exact hn.size)) hb⟩
theorem zH (h : Aside0 (Below w.heap.size w W)) (hb : Below W.heap.size W w1) : Aside0 (Below w.heap.size w w1) := ⟨below_step h.out hb⟩
theorem zG (h : Aside0 (Below w.heap.size w W)) (hn : Below W.heap.size W W') (hg : g = W'.heap.size) : Aside0 (w.heap.size ≤ g) := ⟨by rw [hg]; exact Nat.le_trans h.out.size hn.size⟩
theorem zN (h : Aside0 (W.heap[g]? = some o)) (hn : Below W.heap.size W W') (hg : g' = W'.heap.size) : Aside0 (g ≠ g') := ⟨by rw [hg]; exact Nat.ne_of_lt (Nat.lt_of_lt_of_le (blk_lt h.out) hn.size)⟩
theorem zM (h : Aside0 (W.heap[g]? = some o)) (hn : Below W.heap.size W W') (hg : g' = W'.heap.size) : Aside0 (g' ≠ g) := ⟨by rw [hg]; exact Nat.ne_of_gt (Nat.lt_of_lt_of_le (blk_lt h.out) hn.size)⟩
theorem zs (h : Aside0 (Below w.heap.size w W)) (hn : Below W.heap.size W W') : w.heap.size ≤ W'.heap.size := Nat.le_trans h.out.size hn.size
theorem zf (h : Aside0 (W.heap[g]? = some o)) (hn : Below W.heap.size W W') (k : Nat) (hk : W'.heap.size ≤ k) : k ≠ g := Nat.ne_of_gt (Nat.lt_of_lt_of_le (Nat.lt_of_lt_of_le (blk_lt h.out) hn.size) hk)
end
section
variable {α : Type} {d : Kd α} {e base g g' t t' : Nat} {ok : Nat → Prop} {v a b : Value} {xs : List α} {w W W' w1 : World} {o : Obj} {cs : Array Value}
theorem zq2 (_ : Aside0 (Below w.heap.size w W)) (g : Nat) (a b : Value) (h : Below ((W.setCell ⟨g, 0, none⟩ a).setCell ⟨g, 1, none⟩ b).heap.size ((W.setCell ⟨g, 0, none⟩ a).setCell ⟨g, 1, none⟩ b) W') (_ : Below W'.heap.size W' w1) :
    Below ((W.setCell ⟨g, 0, none⟩ a).setCell ⟨g, 1, none⟩ b).heap.size ((W.setCell ⟨g, 0, none⟩ a).setCell ⟨g, 1, none⟩ b) W' := h
theorem sz2 : ((W.setCell ⟨g, 0, none⟩ a).setCell ⟨g, 1, none⟩ b).heap.size = W.heap.size := by simp [World.setCell]
theorem zBF (h : Aside0 (W.heap[g']? = some (.cells cs t (0, 0)))) (hne : Aside0 (g' ≠ g)) (hb : Below ((W.setCell ⟨g, 0, none⟩ a).setCell ⟨g, 1, none⟩ b).heap.size ((W.setCell ⟨g, 0, none⟩ a).setCell ⟨g, 1, none⟩ b) w1) : Aside0 (w1.heap[g']? = some (.cells cs t (0, 0))) :=
  ⟨blk_below (blk_far (blk_far h.out (p := ⟨g, 0, none⟩) hne.out _) (p := ⟨g, 1, none⟩) hne.out _) hb⟩
theorem zBP {x y : Value} (h : Aside0 (W.heap[g]? = some (.cells #[x, y] t (0, 0)))) (hb : Below ((W.setCell ⟨g, 0, none⟩ a).setCell ⟨g, 1, none⟩ b).heap.size ((W.setCell ⟨g, 0, none⟩ a).setCell ⟨g, 1, none⟩ b) w1) : Aside0 (w1.heap[g]? = some (.cells #[a, b] t (0, 0))) :=
  ⟨blk_below (blk_put (cs := #[a, y]) (blk_put (cs := #[x, y]) h.out 0 a rfl) 1 b rfl) hb⟩
theorem zF (h : Aside0 (Kd.V d e W base ok v xs)) (hk : ∀ k, ok k → k ≠ g) (hb : Below ((W.setCell ⟨g, 0, none⟩ a).setCell ⟨g, 1, none⟩ b).heap.size ((W.setCell ⟨g, 0, none⟩ a).setCell ⟨g, 1, none⟩ b) w1) : Aside0 (Kd.V d e w1 base ok v xs) :=
  ⟨Kd.V_below (Kd.V_far (p := ⟨g, 1, none⟩) (Kd.V_far (p := ⟨g, 0, none⟩) h.out hk _) hk _) hb⟩
theorem zRF (h : Aside0 (Kd.R d e W base ok v xs)) (hB : Aside0 (W.heap[g]? = some (.cells cs t (0, 0)))) (ht : ∀ q, q ∈ e :: d.E → q ≠ t) (hb : Below ((W.setCell ⟨g, 0, none⟩ a).setCell ⟨g, 1, none⟩ b).heap.size ((W.setCell ⟨g, 0, none⟩ a).setCell ⟨g, 1, none⟩ b) w1) : Aside0 (Kd.R d e w1 base ok v xs) :=
  ⟨Kd.R_below (Kd.R_set (Kd.R_set h.out hB.out ht 0 a) (blk_set hB.out 0 a) ht 1 b) hb⟩
theorem zHF (h : Aside0 (Below w.heap.size w W)) (hg : Aside0 (w.heap.size ≤ g)) (hb : Below ((W.setCell ⟨g, 0, none⟩ a).setCell ⟨g, 1, none⟩ b).heap.size ((W.setCell ⟨g, 0, none⟩ a).setCell ⟨g, 1, none⟩ b) w1) : Aside0 (Below w.heap.size w w1) :=
  ⟨below_step (below_set (below_set h.out hg.out) hg.out) hb⟩
theorem zNF (h : Aside0 (W.heap[t]? = some o)) (hn : Below ((W.setCell ⟨g, 0, none⟩ a).setCell ⟨g, 1, none⟩ b).heap.size ((W.setCell ⟨g, 0, none⟩ a).setCell ⟨g, 1, none⟩ b) W') (hg : g' = W'.heap.size) : Aside0 (t ≠ g') := ⟨by rw [hg]; exact Nat.ne_of_lt (Nat.lt_of_lt_of_le (blk_lt h.out) (sz2 (W := W) ▸ hn.size))⟩
theorem zMF (h : Aside0 (W.heap[t]? = some o)) (hn : Below ((W.setCell ⟨g, 0, none⟩ a).setCell ⟨g, 1, none⟩ b).heap.size ((W.setCell ⟨g, 0, none⟩ a).setCell ⟨g, 1, none⟩ b) W') (hg : g' = W'.heap.size) : Aside0 (g' ≠ t) := ⟨by rw [hg]; exact Nat.ne_of_gt (Nat.lt_of_lt_of_le (blk_lt h.out) (sz2 (W := W) ▸ hn.size))⟩
theorem zsF (h : Aside0 (Below w.heap.size w W)) (hn : Below ((W.setCell ⟨g, 0, none⟩ a).setCell ⟨g, 1, none⟩ b).heap.size ((W.setCell ⟨g, 0, none⟩ a).setCell ⟨g, 1, none⟩ b) W') : w.heap.size ≤ W'.heap.size := Nat.le_trans h.out.size (sz2 (W := W) ▸ hn.size)
theorem zGF (h : Aside0 (Below w.heap.size w W)) (hn : Below ((W.setCell ⟨g, 0, none⟩ a).setCell ⟨g, 1, none⟩ b).heap.size ((W.setCell ⟨g, 0, none⟩ a).setCell ⟨g, 1, none⟩ b) W') (hg : g' = W'.heap.size) : Aside0 (w.heap.size ≤ g') := ⟨by rw [hg]; exact zsF h hn⟩
end
end Go.Proofs.Ythoddglnfdmdeaa.P
