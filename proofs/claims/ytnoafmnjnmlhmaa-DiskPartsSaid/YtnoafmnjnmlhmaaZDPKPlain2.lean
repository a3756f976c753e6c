/- disk: sameness, crashes, flushes, new disks, plainly. -/
import Derived.Test.YtnoafmnjnmlhmaaZDPKPlain
set_option linter.unusedVariables false
set_option linter.unusedSimpArgs false
namespace Go.Proofs.Ytnoafmnjnmlhmaa.P
open Go.RowKit Go.Proofs.YtnoafmnjnmlhmaaW.PrintWords Go.Proofs.YtnoafmnjnmlhmaaW.PrintLast Go.Proofs.YtnoafmnjnmlhmaaW.PrintMore
def eqS : List ByteArray → List ByteArray → Bool
  | [], [] => true
  | x :: xs, y :: ys => (x.toList == y.toList) && eqS xs ys
  | _, _ => false
def eqW (x y : S27) : Bool := (x.f0 == y.f0) && (x.f1.toList == y.f1.toList)
def eqC : List S27 → List S27 → Bool
  | [], [] => true
  | x :: xs, y :: ys => eqW x y && eqC xs ys
  | _, _ => false
def sameB (s : List ByteArray) (c : List S27) (s' : List ByteArray) (c' : List S27) : Bool := eqS s s' && eqC c c'
theorem eqS_refl : ∀ s, eqS s s = true
  | [] => rfl
  | x :: s => by rw [eqS, eqS_refl s]; simp
theorem eqC_refl : ∀ c, eqC c c = true
  | [] => rfl
  | x :: c => by rw [eqC, eqC_refl c, eqW]; simp
theorem sameB_refl (s : List ByteArray) (c : List S27) : sameB s c s c = true := by unfold sameB; rw [eqS_refl, eqC_refl]; rfl
theorem eqS_len : ∀ (s t : List ByteArray), s.length ≠ t.length → eqS s t = false
  | [], [], h => absurd rfl h
  | [], _ :: _, _ => rfl
  | _ :: _, [], _ => rfl
  | x :: s, y :: t, h => by rw [eqS, eqS_len s t (by simpa using h), Bool.and_false]
theorem eqC_len : ∀ (s t : List S27), s.length ≠ t.length → eqC s t = false
  | [], [], h => absurd rfl h
  | [], _ :: _, _ => rfl
  | _ :: _, [], _ => rfl
  | x :: s, y :: t, h => by rw [eqC, eqC_len s t (by simpa using h), Bool.and_false]
theorem drop_nil_len {α : Type} {l : List α} {i : Nat} (h : l.drop i = []) (hi : i ≤ l.length) : i = l.length := by have := List.drop_eq_nil_iff.1 h; omega
theorem neW (x y : S27) : (!((x.f0) == (y.f0)) || (!(((x.f1).toList) == ((y.f1).toList)))) = !eqW x y := by unfold eqW; rw [Bool.not_and]
theorem equalC_l0 (s t : List S27) (hst : s.length = t.length) (hs : s.length ≤ 9223372036854775807) : ∀ (r r' : List S27) (i k : Nat), s.drop i = r → t.drop i = r' → i ≤ s.length → r.length + 2 ≤ k →
    api_Write_37.l0 k s t (s.length : Int) (i : Int) = some (eqC r r')
  | [], r', i, k, hr, hr', hi, hk => by
    obtain ⟨k, rfl⟩ : ∃ k', k = k' + 1 := ⟨k - 1, by omega⟩
    have := drop_nil_len hr hi
    subst this
    rw [List.drop_of_length_le (by omega)] at hr'
    subst hr'
    rw [api_Write_37.l0, if_neg (by omega)]; rfl
  | x :: r, [], i, k, hr, hr', hi, hk => by
    have h1 := (rdW_drop hr).2.1
    have := List.drop_eq_nil_iff.1 hr'
    omega
  | x :: r, y :: r', i, k, hr, hr', hi, hk => by
    obtain ⟨k, rfl⟩ : ∃ k', k = k' + 1 := ⟨k - 1, by omega⟩
    obtain ⟨hx, hlt, hd⟩ := rdW_drop hr
    obtain ⟨hy, hlt', hd'⟩ := rdW_drop hr'
    have hk' : r.length + 2 ≤ k := by rw [List.length_cons] at hk; omega
    rw [api_Write_37.l0, if_pos (by omega), if_pos (by omega), if_pos (by omega), if_pos (by omega), hx, hy, wsucc i (by omega), equalC_l0 s t hst hs r r' (i + 1) k hd hd' (by omega) hk', eqC, neW]
    cases eqW x y <;> rfl
theorem rsame_l1 (s s' : List ByteArray) (c c' : List S27) (hcc : c.length = c'.length) (hc : c.length ≤ 9223372036854775807) : ∀ (r r' : List S27) (i k : Nat), c.drop i = r → c'.drop i = r' → i ≤ c.length → r.length + 2 ≤ k →
    armadaref01_Same.l1 k (i : Int) s c s' c' = some (eqC r r')
  | [], r', i, k, hr, hr', hi, hk => by
    obtain ⟨k, rfl⟩ : ∃ k', k = k' + 1 := ⟨k - 1, by omega⟩
    have := drop_nil_len hr hi
    subst this
    rw [List.drop_of_length_le (by omega)] at hr'
    subst hr'
    rw [armadaref01_Same.l1, if_neg (by omega)]; rfl
  | x :: r, [], i, k, hr, hr', hi, hk => by
    have h1 := (rdW_drop hr).2.1
    have := List.drop_eq_nil_iff.1 hr'
    omega
  | x :: r, y :: r', i, k, hr, hr', hi, hk => by
    obtain ⟨k, rfl⟩ : ∃ k', k = k' + 1 := ⟨k - 1, by omega⟩
    obtain ⟨hx, hlt, hd⟩ := rdW_drop hr
    obtain ⟨hy, hlt', hd'⟩ := rdW_drop hr'
    have hk' : r.length + 2 ≤ k := by rw [List.length_cons] at hk; omega
    rw [armadaref01_Same.l1, if_pos (by omega), if_pos (by omega), if_pos (by omega), hx, hy, wsucc i (by omega), rsame_l1 s s' c c' hcc hc r r' (i + 1) k hd hd' (by omega) hk', eqC, neW]
    cases eqW x y <;> rfl
theorem rsame_l0 (s s' : List ByteArray) (c c' : List S27) (hss : s.length = s'.length) (hcc : c.length = c'.length) (hs : s.length ≤ 9223372036854775807) (hc : c.length ≤ 9223372036854775807) : ∀ (r r' : List ByteArray) (i k : Nat), s.drop i = r → s'.drop i = r' → i ≤ s.length → r.length + c.length + 4 ≤ k →
    armadaref01_Same.l0 k (i : Int) s c s' c' = some (eqS r r' && eqC c c')
  | [], r', i, k, hr, hr', hi, hk => by
    obtain ⟨k, rfl⟩ : ∃ k', k = k' + 1 := ⟨k - 1, by omega⟩
    have := drop_nil_len hr hi
    subst this
    rw [List.drop_of_length_le (by omega)] at hr'
    subst hr'
    have h0 := rsame_l1 s s' c c' hcc hc c c' 0 k rfl rfl (Nat.zero_le _) (by simp at hk; omega)
    rw [Int.natCast_zero] at h0
    rw [armadaref01_Same.l0, if_neg (by omega), h0]; rfl
  | x :: r, [], i, k, hr, hr', hi, hk => by
    have h1 := (rdOf_drop hr).2.1
    have := List.drop_eq_nil_iff.1 hr'
    omega
  | x :: r, y :: r', i, k, hr, hr', hi, hk => by
    obtain ⟨k, rfl⟩ : ∃ k', k = k' + 1 := ⟨k - 1, by omega⟩
    obtain ⟨hx, hlt, hd⟩ := rdOf_drop hr
    obtain ⟨hy, hlt', hd'⟩ := rdOf_drop hr'
    have hk' : r.length + c.length + 4 ≤ k := by rw [List.length_cons] at hk; omega
    rw [armadaref01_Same.l0, if_pos (by omega), if_pos (by omega), if_pos (by omega), hx, hy, wsucc i (by omega), rsame_l0 s s' c c' hss hcc hs hc r r' (i + 1) k hd hd' (by omega) hk', eqS]
    by_cases h : x.toList = y.toList
    · rw [if_pos h, beq_iff_eq.2 h, Bool.true_and]
    · rw [if_neg h, beq_eq_false_iff_ne.2 h]; simp
theorem rsame_f (s : List ByteArray) (c : List S27) (s' : List ByteArray) (c' : List S27) (hs : s.length ≤ 9223372036854775807) (hc : c.length ≤ 9223372036854775807) (k : Nat) (hk : s.length + c.length + 10 ≤ k) : armadaref01_Same.f k s c s' c' = some (sameB s c s' c') := by
  obtain ⟨k, rfl⟩ : ∃ k', k = k' + 1 := ⟨k - 1, by omega⟩
  unfold armadaref01_Same.f sameB
  by_cases h1 : s.length = s'.length
  · rw [if_pos (by omega), armadaref01_Same.j0]
    by_cases h2 : c.length = c'.length
    · have h0 := rsame_l0 s s' c c' h1 h2 hs hc s s' 0 k rfl rfl (Nat.zero_le _) (by omega)
      rw [Int.natCast_zero] at h0
      rw [if_neg (by simp; omega), h0]
    · rw [if_pos (by simp; omega), eqC_len c c' h2, Bool.and_false]
  · rw [if_neg (by omega), armadaref01_Same.j0, if_pos rfl, eqS_len s s' h1, Bool.false_and]
def smallB (s : List ByteArray) (c : List S27) : Bool := s.all (fun x => decide (x.size ≤ 100) && decide (s.length ≤ 600)) && c.all (fun x => decide (x.f1.size ≤ 100) && decide (c.length ≤ 200))
theorem small_l1 (s : List ByteArray) (c : List S27) (hc : c.length ≤ 9223372036854775807) : ∀ (r : List S27) (i k : Nat), c.drop i = r → i ≤ c.length → r.length + 2 ≤ k →
    armadaref01_Small.l1 k (i : Int) s c = some (r.all (fun x => decide (x.f1.size ≤ 100) && decide (c.length ≤ 200)))
  | [], i, k, hr, hi, hk => by
    obtain ⟨k, rfl⟩ : ∃ k', k = k' + 1 := ⟨k - 1, by omega⟩
    have := drop_nil_len hr hi
    subst this
    rw [armadaref01_Small.l1, if_neg (by omega)]; rfl
  | x :: r, i, k, hr, hi, hk => by
    obtain ⟨k, rfl⟩ : ∃ k', k = k' + 1 := ⟨k - 1, by omega⟩
    obtain ⟨hx, hlt, hd⟩ := rdW_drop hr
    have hk' : r.length + 2 ≤ k := by rw [List.length_cons] at hk; omega
    rw [armadaref01_Small.l1, if_pos (by omega), if_pos (by omega), hx, wsucc i (by omega), small_l1 s c hc r (i + 1) k hd (by omega) hk', List.all_cons]
    by_cases h1 : x.f1.size ≤ 100
    · rw [if_neg (by omega), decide_eq_true h1]
      by_cases h2 : c.length ≤ 200
      · rw [if_neg (by omega), decide_eq_true h2]; simp
      · rw [if_pos (by omega), decide_eq_false h2]; simp
    · rw [if_pos (by omega), decide_eq_false h1]; simp
theorem small_l0 (s : List ByteArray) (c : List S27) (hs : s.length ≤ 9223372036854775807) (hc : c.length ≤ 9223372036854775807) : ∀ (r : List ByteArray) (i k : Nat), s.drop i = r → i ≤ s.length → r.length + c.length + 4 ≤ k →
    armadaref01_Small.l0 k (i : Int) s c = some (r.all (fun x => decide (x.size ≤ 100) && decide (s.length ≤ 600)) && c.all (fun x => decide (x.f1.size ≤ 100) && decide (c.length ≤ 200)))
  | [], i, k, hr, hi, hk => by
    obtain ⟨k, rfl⟩ : ∃ k', k = k' + 1 := ⟨k - 1, by omega⟩
    have := drop_nil_len hr hi
    subst this
    have h0 := small_l1 s c hc c 0 k rfl (Nat.zero_le _) (by simp at hk; omega)
    rw [Int.natCast_zero] at h0
    rw [armadaref01_Small.l0, if_neg (by omega), h0]; rfl
  | x :: r, i, k, hr, hi, hk => by
    obtain ⟨k, rfl⟩ : ∃ k', k = k' + 1 := ⟨k - 1, by omega⟩
    obtain ⟨hx, hlt, hd⟩ := rdOf_drop hr
    have hk' : r.length + c.length + 4 ≤ k := by rw [List.length_cons] at hk; omega
    rw [armadaref01_Small.l0, if_pos (by omega), if_pos (by omega), hx, wsucc i (by omega), small_l0 s c hs hc r (i + 1) k hd (by omega) hk', List.all_cons]
    by_cases h1 : x.size ≤ 100
    · rw [if_neg (by omega), decide_eq_true h1]
      by_cases h2 : s.length ≤ 600
      · rw [if_neg (by omega), decide_eq_true h2]; simp
      · rw [if_pos (by omega), decide_eq_false h2]; simp
    · rw [if_pos (by omega), decide_eq_false h1]; simp
theorem small_f (s : List ByteArray) (c : List S27) (hs : s.length ≤ 9223372036854775807) (hc : c.length ≤ 9223372036854775807) (k : Nat) (hk : s.length + c.length + 10 ≤ k) : armadaref01_Small.f k s c = some (smallB s c) := by
  have h0 := small_l0 s c hs hc s 0 k rfl (Nat.zero_le _) (by omega)
  rw [Int.natCast_zero] at h0
  exact h0
theorem smallB_lim {s : List ByteArray} {c : List S27} (h : smallB s c = true) : s.length ≤ 600 ∧ c.length ≤ 200 ∧ (∀ x ∈ s, x.size ≤ 100) ∧ ∀ x ∈ c, x.f1.size ≤ 100 := by
  unfold smallB at h
  simp only [Bool.and_eq_true, List.all_eq_true, decide_eq_true_eq] at h
  refine ⟨?_, ?_, fun x hx => (h.1 x hx).1, fun x hx => (h.2 x hx).1⟩
  · cases s with
    | nil => simp
    | cons x s => exact (h.1 x List.mem_cons_self).2
  · cases c with
    | nil => simp
    | cons x c => exact (h.2 x List.mem_cons_self).2
def fewB (l : List S49) : Bool := l.all (fun x => decide (x.f2.size ≤ 100)) && decide (l.length ≤ 200)
theorem rdA_drop {l : List S49} {i : Nat} {x : S49} {r : List S49} (h : l.drop i = x :: r) : rd_T49 l (i : Int) = x ∧ i < l.length ∧ l.drop (i + 1) = r := by
  have hi : i < l.length := by
    apply Nat.lt_of_not_le
    intro c
    rw [List.drop_eq_nil_iff.2 c] at h; cases h
  rw [List.drop_eq_getElem_cons hi] at h
  have h1 := (List.cons.inj h).1
  have h2 := (List.cons.inj h).2
  refine ⟨?_, hi, h2⟩
  unfold rd_T49
  rw [Int.toNat_natCast, List.getD_eq_getElem?_getD, List.getElem?_eq_getElem hi]
  exact h1
theorem few_l0 (l : List S49) (hl : l.length ≤ 9223372036854775807) : ∀ (r : List S49) (i k : Nat), l.drop i = r → i ≤ l.length → r.length + 2 ≤ k →
    armadaref01_Few.l0 k l (i : Int) = some (r.all (fun x => decide (x.f2.size ≤ 100)) && decide (l.length ≤ 200))
  | [], i, k, hr, hi, hk => by
    obtain ⟨k, rfl⟩ : ∃ k', k = k' + 1 := ⟨k - 1, by omega⟩
    have := drop_nil_len hr hi
    subst this
    rw [armadaref01_Few.l0, if_neg (by omega), List.all_nil, Bool.true_and]
    congr 1; exact decide_eq_decide.2 (by omega)
  | x :: r, i, k, hr, hi, hk => by
    obtain ⟨k, rfl⟩ : ∃ k', k = k' + 1 := ⟨k - 1, by omega⟩
    obtain ⟨hx, hlt, hd⟩ := rdA_drop hr
    have hk' : r.length + 2 ≤ k := by rw [List.length_cons] at hk; omega
    rw [armadaref01_Few.l0, if_pos (by omega), if_pos (by omega), hx, wsucc i (by omega), few_l0 l hl r (i + 1) k hd (by omega) hk', List.all_cons]
    by_cases h1 : x.f2.size ≤ 100
    · rw [if_neg (by omega), decide_eq_true h1]; simp
    · rw [if_pos (by omega), decide_eq_false h1]; simp
theorem few_f (l : List S49) (hl : l.length ≤ 9223372036854775807) (k : Nat) (hk : l.length + 10 ≤ k) : armadaref01_Few.f k l = some (fewB l) := by
  have h0 := few_l0 l hl l 0 k rfl (Nat.zero_le _) (by omega)
  rw [Int.natCast_zero] at h0
  exact h0
end Go.Proofs.Ytnoafmnjnmlhmaa.P
