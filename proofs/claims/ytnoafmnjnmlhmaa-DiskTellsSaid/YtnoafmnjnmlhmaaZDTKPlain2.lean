/- disk: sameness, crashes, flushes, new disks, plainly. -/
import Derived.Test.YtnoafmnjnmlhmaaZDTKPlain
set_option linter.unusedVariables false
set_option linter.unusedSimpArgs false
namespace Go.Proofs.Ytnoafmnjnmlhmaa.P
open Go.RowKit Go.Proofs.YtnoafmnjnmlhmaaW.PrintWords Go.Proofs.YtnoafmnjnmlhmaaW.PrintLast Go.Proofs.YtnoafmnjnmlhmaaW.PrintMore
def eqS : List ByteArray → List ByteArray → Bool
  | [], [] => true
  | x :: xs, y :: ys => (x.toList == y.toList) && eqS xs ys
  | _, _ => false
def eqW (x y : S27) : Bool := (x.f0 == y.f0) && (x.f1.toList == y.f1.toList)
def eqC : List S27 → List S27 → Bool
  | [], [] => true
  | x :: xs, y :: ys => eqW x y && eqC xs ys
  | _, _ => false
def sameB (s : List ByteArray) (c : List S27) (s' : List ByteArray) (c' : List S27) : Bool := eqS s s' && eqC c c'
theorem eqS_refl : ∀ s, eqS s s = true
  | [] => rfl
  | x :: s => by rw [eqS, eqS_refl s]; simp
theorem eqC_refl : ∀ c, eqC c c = true
  | [] => rfl
  | x :: c => by rw [eqC, eqC_refl c, eqW]; simp
theorem sameB_refl (s : List ByteArray) (c : List S27) : sameB s c s c = true := by unfold sameB; rw [eqS_refl, eqC_refl]; rfl
theorem eqS_len : ∀ (s t : List ByteArray), s.length ≠ t.length → eqS s t = false
  | [], [], h => absurd rfl h
  | [], _ :: _, _ => rfl
  | _ :: _, [], _ => rfl
  | x :: s, y :: t, h => by rw [eqS, eqS_len s t (by simpa using h), Bool.and_false]
theorem eqC_len : ∀ (s t : List S27), s.length ≠ t.length → eqC s t = false
  | [], [], h => absurd rfl h
  | [], _ :: _, _ => rfl
  | _ :: _, [], _ => rfl
  | x :: s, y :: t, h => by rw [eqC, eqC_len s t (by simpa using h), Bool.and_false]
theorem drop_nil_len {α : Type} {l : List α} {i : Nat} (h : l.drop i = []) (hi : i ≤ l.length) : i = l.length := by have := List.drop_eq_nil_iff.1 h; omega
theorem equalS_l0 (s t : List ByteArray) (hst : s.length = t.length) (hs : s.length ≤ 9223372036854775807) : ∀ (r r' : List ByteArray) (i k : Nat), s.drop i = r → t.drop i = r' → i ≤ s.length → r.length + 2 ≤ k →
    slices_Equal_string_string.l0 k s t (s.length : Int) (i : Int) = some (eqS r r')
  | [], r', i, k, hr, hr', hi, hk => by
    obtain ⟨k, rfl⟩ : ∃ k', k = k' + 1 := ⟨k - 1, by omega⟩
    have := drop_nil_len hr hi
    subst this
    rw [List.drop_of_length_le (by omega)] at hr'
    subst hr'
    rw [slices_Equal_string_string.l0, if_neg (by omega)]; rfl
  | x :: r, [], i, k, hr, hr', hi, hk => by
    have h1 := (rdOf_drop hr).2.1
    have := List.drop_eq_nil_iff.1 hr'
    omega
  | x :: r, y :: r', i, k, hr, hr', hi, hk => by
    obtain ⟨k, rfl⟩ : ∃ k', k = k' + 1 := ⟨k - 1, by omega⟩
    obtain ⟨hx, hlt, hd⟩ := rdOf_drop hr
    obtain ⟨hy, hlt', hd'⟩ := rdOf_drop hr'
    have hk' : r.length + 2 ≤ k := by rw [List.length_cons] at hk; omega
    rw [slices_Equal_string_string.l0, if_pos (by omega), if_pos (by omega), if_pos (by omega), if_pos (by omega), hx, hy, wsucc i (by omega), equalS_l0 s t hst hs r r' (i + 1) k hd hd' (by omega) hk', eqS]
    by_cases h : x.toList = y.toList
    · rw [if_pos h, beq_iff_eq.2 h, Bool.true_and]
    · rw [if_neg h, beq_eq_false_iff_ne.2 h, Bool.false_and]
theorem equalS_f (s t : List ByteArray) (hs : s.length ≤ 9223372036854775807) (k : Nat) (hk : s.length + 3 ≤ k) : slices_Equal_string_string.f k s t = some (eqS s t) := by
  unfold slices_Equal_string_string.f
  by_cases h : s.length = t.length
  · have h0 := equalS_l0 s t h hs s t 0 k rfl rfl (Nat.zero_le _) (by omega)
    rw [Int.natCast_zero] at h0
    rw [if_pos (by omega), h0]
  · rw [if_neg (by omega), eqS_len s t h]
theorem neW (x y : S27) : (!((x.f0) == (y.f0)) || (!(((x.f1).toList) == ((y.f1).toList)))) = !eqW x y := by unfold eqW; rw [Bool.not_and]
theorem equalC_l0 (s t : List S27) (hst : s.length = t.length) (hs : s.length ≤ 9223372036854775807) : ∀ (r r' : List S27) (i k : Nat), s.drop i = r → t.drop i = r' → i ≤ s.length → r.length + 2 ≤ k →
    api_Write_37.l0 k s t (s.length : Int) (i : Int) = some (eqC r r')
  | [], r', i, k, hr, hr', hi, hk => by
    obtain ⟨k, rfl⟩ : ∃ k', k = k' + 1 := ⟨k - 1, by omega⟩
    have := drop_nil_len hr hi
    subst this
    rw [List.drop_of_length_le (by omega)] at hr'
    subst hr'
    rw [api_Write_37.l0, if_neg (by omega)]; rfl
  | x :: r, [], i, k, hr, hr', hi, hk => by
    have h1 := (rdW_drop hr).2.1
    have := List.drop_eq_nil_iff.1 hr'
    omega
  | x :: r, y :: r', i, k, hr, hr', hi, hk => by
    obtain ⟨k, rfl⟩ : ∃ k', k = k' + 1 := ⟨k - 1, by omega⟩
    obtain ⟨hx, hlt, hd⟩ := rdW_drop hr
    obtain ⟨hy, hlt', hd'⟩ := rdW_drop hr'
    have hk' : r.length + 2 ≤ k := by rw [List.length_cons] at hk; omega
    rw [api_Write_37.l0, if_pos (by omega), if_pos (by omega), if_pos (by omega), if_pos (by omega), hx, hy, wsucc i (by omega), equalC_l0 s t hst hs r r' (i + 1) k hd hd' (by omega) hk', eqC, neW]
    cases eqW x y <;> rfl
theorem equalC_f (s t : List S27) (hs : s.length ≤ 9223372036854775807) (k : Nat) (hk : s.length + 3 ≤ k) : api_Write_37.f k s t = some (eqC s t) := by
  unfold api_Write_37.f
  by_cases h : s.length = t.length
  · have h0 := equalC_l0 s t h hs s t 0 k rfl rfl (Nat.zero_le _) (by omega)
    rw [Int.natCast_zero] at h0
    rw [if_pos (by omega), h0]
  · rw [if_neg (by omega), eqC_len s t h]
theorem same_f (s : List ByteArray) (c : List S27) (s' : List ByteArray) (c' : List S27) (hs : s.length ≤ 9223372036854775807) (hc : c.length ≤ 9223372036854775807) (k : Nat) (hk : s.length + c.length + 10 ≤ k) : disk_Same.f k s c s' c' = some (sameB s c s' c') := by
  unfold disk_Same.f sameB
  rw [equalS_f s s' hs _ (by omega), equalC_f c c' hc _ (by omega)]
  simp only [Option.bind_some]
  cases eqS s s' <;> rfl
theorem rsame_l1 (s s' : List ByteArray) (c c' : List S27) (hcc : c.length = c'.length) (hc : c.length ≤ 9223372036854775807) : ∀ (r r' : List S27) (i k : Nat), c.drop i = r → c'.drop i = r' → i ≤ c.length → r.length + 2 ≤ k →
    armadaref01_Same.l1 k (i : Int) s c s' c' = some (eqC r r')
  | [], r', i, k, hr, hr', hi, hk => by
    obtain ⟨k, rfl⟩ : ∃ k', k = k' + 1 := ⟨k - 1, by omega⟩
    have := drop_nil_len hr hi
    subst this
    rw [List.drop_of_length_le (by omega)] at hr'
    subst hr'
    rw [armadaref01_Same.l1, if_neg (by omega)]; rfl
  | x :: r, [], i, k, hr, hr', hi, hk => by
    have h1 := (rdW_drop hr).2.1
    have := List.drop_eq_nil_iff.1 hr'
    omega
  | x :: r, y :: r', i, k, hr, hr', hi, hk => by
    obtain ⟨k, rfl⟩ : ∃ k', k = k' + 1 := ⟨k - 1, by omega⟩
    obtain ⟨hx, hlt, hd⟩ := rdW_drop hr
    obtain ⟨hy, hlt', hd'⟩ := rdW_drop hr'
    have hk' : r.length + 2 ≤ k := by rw [List.length_cons] at hk; omega
    rw [armadaref01_Same.l1, if_pos (by omega), if_pos (by omega), if_pos (by omega), hx, hy, wsucc i (by omega), rsame_l1 s s' c c' hcc hc r r' (i + 1) k hd hd' (by omega) hk', eqC, neW]
    cases eqW x y <;> rfl
theorem rsame_l0 (s s' : List ByteArray) (c c' : List S27) (hss : s.length = s'.length) (hcc : c.length = c'.length) (hs : s.length ≤ 9223372036854775807) (hc : c.length ≤ 9223372036854775807) : ∀ (r r' : List ByteArray) (i k : Nat), s.drop i = r → s'.drop i = r' → i ≤ s.length → r.length + c.length + 4 ≤ k →
    armadaref01_Same.l0 k (i : Int) s c s' c' = some (eqS r r' && eqC c c')
  | [], r', i, k, hr, hr', hi, hk => by
    obtain ⟨k, rfl⟩ : ∃ k', k = k' + 1 := ⟨k - 1, by omega⟩
    have := drop_nil_len hr hi
    subst this
    rw [List.drop_of_length_le (by omega)] at hr'
    subst hr'
    have h0 := rsame_l1 s s' c c' hcc hc c c' 0 k rfl rfl (Nat.zero_le _) (by simp at hk; omega)
    rw [Int.natCast_zero] at h0
    rw [armadaref01_Same.l0, if_neg (by omega), h0]; rfl
  | x :: r, [], i, k, hr, hr', hi, hk => by
    have h1 := (rdOf_drop hr).2.1
    have := List.drop_eq_nil_iff.1 hr'
    omega
  | x :: r, y :: r', i, k, hr, hr', hi, hk => by
    obtain ⟨k, rfl⟩ : ∃ k', k = k' + 1 := ⟨k - 1, by omega⟩
    obtain ⟨hx, hlt, hd⟩ := rdOf_drop hr
    obtain ⟨hy, hlt', hd'⟩ := rdOf_drop hr'
    have hk' : r.length + c.length + 4 ≤ k := by rw [List.length_cons] at hk; omega
    rw [armadaref01_Same.l0, if_pos (by omega), if_pos (by omega), if_pos (by omega), hx, hy, wsucc i (by omega), rsame_l0 s s' c c' hss hcc hs hc r r' (i + 1) k hd hd' (by omega) hk', eqS]
    by_cases h : x.toList = y.toList
    · rw [if_pos h, beq_iff_eq.2 h, Bool.true_and]
    · rw [if_neg h, beq_eq_false_iff_ne.2 h]; simp
theorem rsame_f (s : List ByteArray) (c : List S27) (s' : List ByteArray) (c' : List S27) (hs : s.length ≤ 9223372036854775807) (hc : c.length ≤ 9223372036854775807) (k : Nat) (hk : s.length + c.length + 10 ≤ k) : armadaref01_Same.f k s c s' c' = some (sameB s c s' c') := by
  obtain ⟨k, rfl⟩ : ∃ k', k = k' + 1 := ⟨k - 1, by omega⟩
  unfold armadaref01_Same.f sameB
  by_cases h1 : s.length = s'.length
  · rw [if_pos (by omega), armadaref01_Same.j0]
    by_cases h2 : c.length = c'.length
    · have h0 := rsame_l0 s s' c c' h1 h2 hs hc s s' 0 k rfl rfl (Nat.zero_le _) (by omega)
      rw [Int.natCast_zero] at h0
      rw [if_neg (by simp; omega), h0]
    · rw [if_pos (by simp; omega), eqC_len c c' h2, Bool.and_false]
  · rw [if_neg (by omega), armadaref01_Same.j0, if_pos rfl, eqS_len s s' h1, Bool.false_and]
theorem rdBool_get (keep : List Bool) (i : Nat) : rdOf false keep (i : Int) = keep.getD i false := by unfold rdOf; rw [Int.toNat_natCast]
theorem rcrash_l0 (s : List ByteArray) (c : List S27) (keep : List Bool) (hc : c.length ≤ 1000000) (hw : ∀ x ∈ c, 0 ≤ x.f0 ∧ x.f0 < (s.length : Int)) : ∀ (r : List S27) (i k : Nat) (row : List ByteArray), c.drop i = r → i ≤ c.length → r.length + 2 ≤ k → row.length = s.length →
    armadaref01_Crash.l0 k keep row (i : Int) s c = some (wrt (keptB keep) i r row, [], 0)
  | [], i, k, row, hr, hi, hk, hl => by
    obtain ⟨k, rfl⟩ : ∃ k', k = k' + 1 := ⟨k - 1, by omega⟩
    have := drop_nil_len hr hi
    subst this
    rw [armadaref01_Crash.l0, if_neg (by omega)]; rfl
  | x :: r, i, k, row, hr, hi, hk, hl => by
    obtain ⟨k, rfl⟩ : ∃ k', k = k' + 1 := ⟨k - 1, by omega⟩
    obtain ⟨hx, hlt, hd⟩ := rdW_drop hr
    have hk' : r.length + 2 ≤ k := by rw [List.length_cons] at hk; omega
    have hxw := hw x (List.mem_of_mem_drop (i := i) (by rw [hr]; exact List.mem_cons_self))
    rw [armadaref01_Crash.l0, if_pos (by omega), hx, wsucc i (by omega), wrt]
    have ih0 := rcrash_l0 s c keep hc hw r (i + 1) k row hd (by omega) hk' hl
    have ih1 := rcrash_l0 s c keep hc hw r (i + 1) k (row.set x.f0.toNat x.f1) hd (by omega) hk' (by rw [List.length_set, hl])
    by_cases h1 : i < keep.length
    · rw [if_pos (by omega), if_pos (by omega), rdBool_get]
      by_cases h2 : keep.getD i false = true
      · rw [if_pos h2, if_pos hxw.1, if_pos (by rw [hl]; exact hxw.2), if_pos (show keptB keep i = true by unfold keptB; rw [decide_eq_true h1, h2]; rfl)]; exact ih1
      · rw [if_neg h2, if_neg (show ¬ keptB keep i = true by unfold keptB; rw [Bool.and_eq_true]; exact fun h => h2 h.2)]; exact ih0
    · rw [if_neg (by omega), if_neg (show ¬ keptB keep i = true by unfold keptB; rw [decide_eq_false h1]; simp)]; exact ih0
theorem rcrash_f (s : List ByteArray) (c : List S27) (keep : List Bool) (hs : s.length ≤ 1000000) (hc : c.length ≤ 1000000) (k : Nat) (hk : s.length + c.length + 50 ≤ k) : armadaref01_Crash.f k s c keep = some (crashZ s c keep) := by
  unfold armadaref01_Crash.f crashZ
  rw [rmay_f s c hs hc _ (by omega)]
  simp only [Option.bind_some]
  by_cases hm : mayB s c = true
  · rw [if_pos hm, if_pos hm]
    simp only [List.nil_append]
    rw [if_pos (by simp; omega)]
    have h := rcrash_l0 s c keep hc (fun x hx => ⟨(mayB_wr hm x hx).1, (mayB_wr hm x hx).2.1⟩) c 0 k s rfl (Nat.zero_le _) (by omega) rfl
    rw [Int.natCast_zero] at h
    exact h
  · rw [if_neg hm, if_neg hm]
theorem wrt_congr {kb kb' : Nat → Bool} : ∀ (r : List S27) (i : Nat) (row : List ByteArray), (∀ j, i ≤ j → j < i + r.length → kb j = kb' j) → wrt kb i r row = wrt kb' i r row
  | [], _, _, _ => rfl
  | x :: r, i, row, h => by
    rw [wrt, wrt, h i (Nat.le_refl _) (by simp), wrt_congr r (i + 1) _ (fun j h1 h2 => h j (by omega) (by rw [List.length_cons]; omega))]
theorem rflush_l0 (s : List ByteArray) (c : List S27) (hs : s.length ≤ 1000000) (hc : c.length ≤ 1000000) : ∀ (n i k : Nat), i + n = c.length → n + s.length + c.length + 60 ≤ k →
    armadaref01_Flush.l0 k (List.replicate i true) (i : Int) s c = some (crashZ s c (List.replicate c.length true))
  | 0, i, k, hi, hk => by
    obtain ⟨k, rfl⟩ : ∃ k', k = k' + 1 := ⟨k - 1, by omega⟩
    have : i = c.length := by omega
    subst this
    rw [armadaref01_Flush.l0, if_neg (by omega), rcrash_f s c _ hs hc _ (by omega)]; rfl
  | n + 1, i, k, hi, hk => by
    obtain ⟨k, rfl⟩ : ∃ k', k = k' + 1 := ⟨k - 1, by omega⟩
    rw [armadaref01_Flush.l0, if_pos (by omega), if_pos (by rw [List.length_replicate]; omega), wsucc i (by omega)]
    rw [show List.replicate i true ++ [true] = List.replicate (i + 1) true from (List.replicate_succ').symm]
    exact rflush_l0 s c hs hc n (i + 1) k (by omega) (by omega)
theorem crash_all (s : List ByteArray) (c : List S27) (n : Nat) (hn : c.length ≤ n) : crashZ s c (List.replicate n true) = flushZ s c := by
  unfold crashZ flushZ
  rw [wrt_congr (kb := keptB (List.replicate n true)) (kb' := fun _ => true) c 0 s (fun j _ h => by unfold keptB; rw [List.length_replicate, decide_eq_true (by omega), List.getD_eq_getElem?_getD, List.getElem?_replicate, if_pos (by omega)]; rfl)]
theorem rflush_f (s : List ByteArray) (c : List S27) (hs : s.length ≤ 1000000) (hc : c.length ≤ 1000000) (k : Nat) (hk : s.length + 2 * c.length + 60 ≤ k) : armadaref01_Flush.f k s c = some (flushZ s c) := by
  unfold armadaref01_Flush.f
  have h := rflush_l0 s c hs hc c.length 0 k (by omega) (by omega)
  rw [Int.natCast_zero] at h
  rw [← crash_all s c c.length (Nat.le_refl _)]
  exact h
def newZ (n : Int) : List ByteArray × List S27 × Bool := if n < 1 ∨ n > 512 then ([], [], false) else (List.replicate n.toNat (zerosB 32), [], true)
theorem fil_empty : fil (⟨#[]⟩ : ByteArray) = zerosB 32 := by
  apply ByteArray.ext
  unfold fil
  rw [ByteArray.data_append]
  exact Array.empty_append
theorem rnew_l0 : ∀ (m i n k : Nat), i + m = n → n ≤ 512 → m + 60 ≤ k → armadaref01_New.l0 k (n : Int) (i : Int) (List.replicate i (zerosB 32)) = some (List.replicate n (zerosB 32), [], true)
  | 0, i, n, k, hi, hn, hk => by
    obtain ⟨k, rfl⟩ : ∃ k', k = k' + 1 := ⟨k - 1, by omega⟩
    have : i = n := by omega
    subst this
    rw [armadaref01_New.l0, if_neg (by omega)]
  | m + 1, i, n, k, hi, hn, hk => by
    obtain ⟨k, rfl⟩ : ∃ k', k = k' + 1 := ⟨k - 1, by omega⟩
    rw [armadaref01_New.l0, if_pos (by omega), fill_f _ (by decide) _ (by omega), fil_empty]
    simp only [Option.bind_some]
    rw [if_pos (by rw [List.length_replicate]; omega), wsucc i (by omega), show List.replicate i (zerosB 32) ++ [zerosB 32] = List.replicate (i + 1) (zerosB 32) from (List.replicate_succ').symm]
    exact rnew_l0 m (i + 1) n k (by omega) hn (by omega)
theorem rnew_f (n : Int) (k : Nat) (hk : 600 ≤ k) : armadaref01_New.f k n = some (newZ n) := by
  obtain ⟨k, rfl⟩ : ∃ k', k = k' + 1 := ⟨k - 1, by omega⟩
  unfold armadaref01_New.f newZ
  by_cases h : n < 1
  · rw [if_pos h, armadaref01_New.j0, if_pos rfl, if_pos (.inl h)]
  · rw [if_neg h, armadaref01_New.j0]
    by_cases h2 : n > 512
    · rw [if_pos (decide_eq_true h2), if_pos (.inr h2)]
    · rw [if_neg (by simp; omega), if_neg (by omega)]
      have h0 := rnew_l0 n.toNat 0 n.toNat k (by omega) (by omega) (by omega)
      rw [Int.natCast_zero, Int.toNat_of_nonneg (by omega)] at h0
      exact h0
def smallB (s : List ByteArray) (c : List S27) : Bool := s.all (fun x => decide (x.size ≤ 100) && decide (s.length ≤ 600)) && c.all (fun x => decide (x.f1.size ≤ 100) && decide (c.length ≤ 200))
theorem small_l1 (s : List ByteArray) (c : List S27) (hc : c.length ≤ 9223372036854775807) : ∀ (r : List S27) (i k : Nat), c.drop i = r → i ≤ c.length → r.length + 2 ≤ k →
    armadaref01_Small.l1 k (i : Int) s c = some (r.all (fun x => decide (x.f1.size ≤ 100) && decide (c.length ≤ 200)))
  | [], i, k, hr, hi, hk => by
    obtain ⟨k, rfl⟩ : ∃ k', k = k' + 1 := ⟨k - 1, by omega⟩
    have := drop_nil_len hr hi
    subst this
    rw [armadaref01_Small.l1, if_neg (by omega)]; rfl
  | x :: r, i, k, hr, hi, hk => by
    obtain ⟨k, rfl⟩ : ∃ k', k = k' + 1 := ⟨k - 1, by omega⟩
    obtain ⟨hx, hlt, hd⟩ := rdW_drop hr
    have hk' : r.length + 2 ≤ k := by rw [List.length_cons] at hk; omega
    rw [armadaref01_Small.l1, if_pos (by omega), if_pos (by omega), hx, wsucc i (by omega), small_l1 s c hc r (i + 1) k hd (by omega) hk', List.all_cons]
    by_cases h1 : x.f1.size ≤ 100
    · rw [if_neg (by omega), decide_eq_true h1]
      by_cases h2 : c.length ≤ 200
      · rw [if_neg (by omega), decide_eq_true h2]; simp
      · rw [if_pos (by omega), decide_eq_false h2]; simp
    · rw [if_pos (by omega), decide_eq_false h1]; simp
theorem small_l0 (s : List ByteArray) (c : List S27) (hs : s.length ≤ 9223372036854775807) (hc : c.length ≤ 9223372036854775807) : ∀ (r : List ByteArray) (i k : Nat), s.drop i = r → i ≤ s.length → r.length + c.length + 4 ≤ k →
    armadaref01_Small.l0 k (i : Int) s c = some (r.all (fun x => decide (x.size ≤ 100) && decide (s.length ≤ 600)) && c.all (fun x => decide (x.f1.size ≤ 100) && decide (c.length ≤ 200)))
  | [], i, k, hr, hi, hk => by
    obtain ⟨k, rfl⟩ : ∃ k', k = k' + 1 := ⟨k - 1, by omega⟩
    have := drop_nil_len hr hi
    subst this
    have h0 := small_l1 s c hc c 0 k rfl (Nat.zero_le _) (by simp at hk; omega)
    rw [Int.natCast_zero] at h0
    rw [armadaref01_Small.l0, if_neg (by omega), h0]; rfl
  | x :: r, i, k, hr, hi, hk => by
    obtain ⟨k, rfl⟩ : ∃ k', k = k' + 1 := ⟨k - 1, by omega⟩
    obtain ⟨hx, hlt, hd⟩ := rdOf_drop hr
    have hk' : r.length + c.length + 4 ≤ k := by rw [List.length_cons] at hk; omega
    rw [armadaref01_Small.l0, if_pos (by omega), if_pos (by omega), hx, wsucc i (by omega), small_l0 s c hs hc r (i + 1) k hd (by omega) hk', List.all_cons]
    by_cases h1 : x.size ≤ 100
    · rw [if_neg (by omega), decide_eq_true h1]
      by_cases h2 : s.length ≤ 600
      · rw [if_neg (by omega), decide_eq_true h2]; simp
      · rw [if_pos (by omega), decide_eq_false h2]; simp
    · rw [if_pos (by omega), decide_eq_false h1]; simp
theorem small_f (s : List ByteArray) (c : List S27) (hs : s.length ≤ 9223372036854775807) (hc : c.length ≤ 9223372036854775807) (k : Nat) (hk : s.length + c.length + 10 ≤ k) : armadaref01_Small.f k s c = some (smallB s c) := by
  have h0 := small_l0 s c hs hc s 0 k rfl (Nat.zero_le _) (by omega)
  rw [Int.natCast_zero] at h0
  exact h0
theorem smallB_lim {s : List ByteArray} {c : List S27} (h : smallB s c = true) : s.length ≤ 600 ∧ c.length ≤ 200 ∧ (∀ x ∈ s, x.size ≤ 100) ∧ ∀ x ∈ c, x.f1.size ≤ 100 := by
  unfold smallB at h
  simp only [Bool.and_eq_true, List.all_eq_true, decide_eq_true_eq] at h
  refine ⟨?_, ?_, fun x hx => (h.1 x hx).1, fun x hx => (h.2 x hx).1⟩
  · cases s with
    | nil => simp
    | cons x s => exact (h.1 x List.mem_cons_self).2
  · cases c with
    | nil => simp
    | cons x c => exact (h.2 x List.mem_cons_self).2
end Go.Proofs.Ytnoafmnjnmlhmaa.P
