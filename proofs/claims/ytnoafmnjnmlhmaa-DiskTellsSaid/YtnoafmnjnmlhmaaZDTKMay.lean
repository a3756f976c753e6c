/- disk: May, plainly. -/
import Derived.Test.YtnoafmnjnmlhmaaZDTM0
set_option linter.unusedVariables false
set_option linter.unusedSimpArgs false
namespace Go.Proofs.Ytnoafmnjnmlhmaa.P
open Go.RowKit Go.Proofs.YtnoafmnjnmlhmaaW.PrintWords Go.Proofs.YtnoafmnjnmlhmaaW.PrintLast Go.Proofs.YtnoafmnjnmlhmaaW.PrintMore
theorem rdOf_drop {l : List ByteArray} {i : Nat} {x : ByteArray} {r : List ByteArray} (h : l.drop i = x :: r) : rdOf ByteArray.empty l (i : Int) = x ∧ i < l.length ∧ l.drop (i + 1) = r := by
  have hi : i < l.length := by
    apply Nat.lt_of_not_le
    intro c
    rw [List.drop_eq_nil_iff.2 c] at h; cases h
  rw [List.drop_eq_getElem_cons hi] at h
  have h1 := (List.cons.inj h).1
  have h2 := (List.cons.inj h).2
  refine ⟨?_, hi, h2⟩
  unfold rdOf
  rw [Int.toNat_natCast, List.getD_eq_getElem?_getD, List.getElem?_eq_getElem hi]
  exact h1
theorem rdW_drop {l : List S27} {i : Nat} {x : S27} {r : List S27} (h : l.drop i = x :: r) : rd_T27 l (i : Int) = x ∧ i < l.length ∧ l.drop (i + 1) = r := by
  have hi : i < l.length := by
    apply Nat.lt_of_not_le
    intro c
    rw [List.drop_eq_nil_iff.2 c] at h; cases h
  rw [List.drop_eq_getElem_cons hi] at h
  have h1 := (List.cons.inj h).1
  have h2 := (List.cons.inj h).2
  refine ⟨?_, hi, h2⟩
  unfold rd_T27
  rw [Int.toNat_natCast, List.getD_eq_getElem?_getD, List.getElem?_eq_getElem hi]
  exact h1
theorem wsucc (i : Nat) (h : i < 9223372036854775807) : wrap64 ((i : Int) + 1) = ((i + 1 : Nat) : Int) := by unfold wrap64; omega
/-- Has a disk's write a place, and is it a sector? -/
def okW (n : Nat) (x : S27) : Bool := decide (0 ≤ x.f0) && (decide (x.f0 < (n : Int)) && decide (x.f1.size = 32))
def secB (x : ByteArray) : Bool := decide (x.size = 32)
def mayB (s : List ByteArray) (c : List S27) : Bool := decide (1 ≤ s.length) && (decide (s.length ≤ 512) && (s.all secB && c.all (okW s.length)))
theorem is_f (s : List ByteArray) (c : List S27) (a : Int) : disk_is.f s c a = some (decide (0 ≤ a) && decide (a < (s.length : Int))) := by
  unfold disk_is.f
  by_cases h : a ≥ 0
  · rw [if_pos h, decide_eq_true (show (0 : Int) ≤ a from h), Bool.true_and]
  · rw [if_neg h, decide_eq_false (show ¬ (0 : Int) ≤ a from h), Bool.false_and]
theorem may_l1 (s : List ByteArray) (c : List S27) (hc : c.length ≤ 9223372036854775807) : ∀ (r : List S27) (i k : Nat), c.drop i = r → i ≤ c.length → r.length + 2 ≤ k →
    disk_May.l1 k c (c.length : Int) (i : Int) s c = some (r.all (okW s.length))
  | [], i, k, hr, hi, hk => by
    obtain ⟨k, rfl⟩ : ∃ k', k = k' + 1 := ⟨k - 1, by omega⟩
    have : i = c.length := by have := List.drop_eq_nil_iff.1 hr; omega
    subst this
    rw [disk_May.l1, if_neg (by omega)]; rfl
  | x :: r, i, k, hr, hi, hk => by
    obtain ⟨k, rfl⟩ : ∃ k', k = k' + 1 := ⟨k - 1, by omega⟩
    obtain ⟨hx, hlt, hd⟩ := rdW_drop hr
    have hk' : r.length + 2 ≤ k := by rw [List.length_cons] at hk; omega
    have ih := may_l1 s c hc r (i + 1) k hd (by omega) hk'
    rw [disk_May.l1, if_pos (by omega), if_pos (by omega), if_pos (by omega), hx, wsucc i (by omega), is_f, ih, List.all_cons]
    simp only [Option.bind_some]
    unfold okW
    by_cases h1 : (0 : Int) ≤ x.f0 <;> by_cases h2 : x.f0 < (s.length : Int) <;> by_cases h3 : x.f1.size = 32 <;> simp [h1, h2, h3] <;> omega
theorem may_l0 (s : List ByteArray) (c : List S27) (hs : s.length ≤ 9223372036854775807) (hc : c.length ≤ 9223372036854775807) : ∀ (r : List ByteArray) (i k : Nat), s.drop i = r → i ≤ s.length → r.length + c.length + 4 ≤ k →
    disk_May.l0 k s (s.length : Int) (i : Int) s c = some (r.all secB && c.all (okW s.length))
  | [], i, k, hr, hi, hk => by
    obtain ⟨k, rfl⟩ : ∃ k', k = k' + 1 := ⟨k - 1, by omega⟩
    have : i = s.length := by have := List.drop_eq_nil_iff.1 hr; omega
    subst this
    have h1 := may_l1 s c hc c 0 k rfl (Nat.zero_le _) (by simp at hk; omega)
    rw [Int.natCast_zero] at h1
    rw [disk_May.l0, if_neg (by omega), h1]; rfl
  | x :: r, i, k, hr, hi, hk => by
    obtain ⟨k, rfl⟩ : ∃ k', k = k' + 1 := ⟨k - 1, by omega⟩
    obtain ⟨hx, hlt, hd⟩ := rdOf_drop hr
    have hk' : r.length + c.length + 4 ≤ k := by rw [List.length_cons] at hk; omega
    have ih := may_l0 s c hs hc r (i + 1) k hd (by omega) hk'
    rw [disk_May.l0, if_pos (by omega), if_pos (by omega), if_pos (by omega), hx, wsucc i (by omega), ih, List.all_cons]
    unfold secB
    by_cases h3 : x.size = 32
    · rw [if_pos (by omega)]; simp [h3]
    · rw [if_neg (by omega)]; simp [h3]
theorem may_f (s : List ByteArray) (c : List S27) (hs : s.length ≤ 9223372036854775807) (hc : c.length ≤ 9223372036854775807) (k : Nat) (hk : s.length + c.length + 6 ≤ k) : disk_May.f k s c = some (mayB s c) := by
  obtain ⟨k, rfl⟩ : ∃ k', k = k' + 1 := ⟨k - 1, by omega⟩
  have h := may_l0 s c hs hc s 0 k rfl (Nat.zero_le _) (by omega)
  rw [Int.natCast_zero] at h
  unfold disk_May.f mayB
  by_cases h1 : (s.length : Int) < 1
  · rw [if_pos h1, disk_May.j0, if_pos rfl, decide_eq_false (show ¬ 1 ≤ s.length by omega), Bool.false_and]
  · rw [if_neg h1, decide_eq_true (show 1 ≤ s.length by omega), Bool.true_and, disk_May.j0, h]
    by_cases h2 : (s.length : Int) > 512
    · rw [decide_eq_true h2, if_pos rfl, decide_eq_false (show ¬ s.length ≤ 512 by omega), Bool.false_and]
    · rw [decide_eq_false h2, if_neg (by decide), decide_eq_true (show s.length ≤ 512 by omega), Bool.true_and]
/-- May, by what it tells. -/
theorem may_any (A0 : Option Addr) (c0 : Nat) (s : List ByteArray) (A1 : Option Addr) (c1 : Nat) (c : List S27) (w : World) (h0 : Kd.C Kd.string w A0 s.length s) (g0 : s.length ≤ c0) (h1 : Kd.C k27 w A1 c.length c) (g1 : c.length ≤ c1) :
    Calls Try.prog 16 #[.agg #[.slice A0 s.length c0, .slice A1 c.length c1]] w fun e w' => e = .returned (.bool (mayB s c)) ∧ Below w.heap.size w w' :=
  disk_May.calls _ A0 c0 s A1 c1 c _ w h0 g0 h1 g1 (may_f s c h0.2.1 h1.2.1 _ (Nat.le_refl _))
theorem is_any (A0 : Option Addr) (c0 : Nat) (s : List ByteArray) (A1 : Option Addr) (c1 : Nat) (c : List S27) (a : Int) (w : World) (h0 : Kd.C Kd.string w A0 s.length s) (g0 : s.length ≤ c0) (h1 : Kd.C k27 w A1 c.length c) (g1 : c.length ≤ c1) :
    Calls Try.prog 28 #[.agg #[.slice A0 s.length c0, .slice A1 c.length c1], .int .i64 a] w fun e w' => e = .returned (.bool (decide (0 ≤ a) && decide (a < (s.length : Int)))) ∧ Below w.heap.size w w' :=
  disk_is.calls A0 c0 s A1 c1 c a _ w h0 g0 h1 g1 (is_f s c a)
theorem mayB_sec {s : List ByteArray} {c : List S27} (h : mayB s c = true) : 1 ≤ s.length ∧ s.length ≤ 512 ∧ ∀ x ∈ s, x.size = 32 := by
  unfold mayB at h
  simp only [Bool.and_eq_true, decide_eq_true_eq, List.all_eq_true] at h
  exact ⟨h.1, h.2.1, fun x hx => by simpa [secB] using h.2.2.1 x hx⟩
theorem mayB_wr {s : List ByteArray} {c : List S27} (h : mayB s c = true) : ∀ x ∈ c, 0 ≤ x.f0 ∧ x.f0 < (s.length : Int) ∧ x.f1.size = 32 := by
  unfold mayB at h
  simp only [Bool.and_eq_true, decide_eq_true_eq, List.all_eq_true] at h
  intro x hx
  simpa [okW] using h.2.2.2 x hx
end Go.Proofs.Ytnoafmnjnmlhmaa.P
