/- rec: a payload's sectors hold it; a head's text is read as that head; neither is the other. -/
import Derived.Test.YtajgpmeilpjadaaZRecBackRJoin
set_option linter.unusedVariables false
set_option linter.unusedSimpArgs false
namespace Go.Proofs.Ytajgpmeilpjadaa.Pl
set_option linter.unusedSimpArgs false
open Go.RowKit Go.Proofs.Ytajgpmeilpjadaa.P Go.Proofs.YtajgpmeilpjadaaW.PrintWords Go.Proofs.YtajgpmeilpjadaaW.PrintLast Go.Proofs.YtajgpmeilpjadaaW.PrintMore
theorem odd_cutN (s : ByteArray) (n : Nat) : odd32 (cutN s n) = false := by
  unfold odd32 cutN
  rw [List.any_eq_false]
  intro x hx
  obtain ⟨i, _, rfl⟩ := List.mem_map.1 hx
  simp [chunk_size]
theorem joined_append (a b : List ByteArray) : joined (a ++ b) = joined a ++ joined b := by
  induction a with
  | nil => apply ByteArray.ext; simp [joined, ByteArray.data_append]
  | cons s a ih => simp only [List.cons_append, joined, ih, ByteArray.append_assoc]
theorem joined_one (s : ByteArray) : joined [s] = s.extract 1 s.size := by apply ByteArray.ext; simp [joined, ByteArray.data_append]
theorem chunk_eq (s : ByteArray) (i : Nat) : chunk s i = D1 ++ (s.extract (31 * i) (31 * i + 31) ++ zerosB (31 - min 31 (s.size - 31 * i))) := by
  unfold chunk fillB
  rw [ByteArray.append_assoc, ByteArray.size_append, D1_size, part_size]
  congr 3
  omega
theorem chunk_rest (s : ByteArray) (i : Nat) : (chunk s i).extract 1 (chunk s i).size = s.extract (31 * i) (31 * i + 31) ++ zerosB (31 - min 31 (s.size - 31 * i)) := by
  rw [chunk_size, chunk_eq]
  exact ByteArray.extract_append_eq_right (by rfl) (by rw [D1_size, ByteArray.size_append, part_size, zerosB_size]; omega)
theorem joined_cutN (s : ByteArray) (i : Nat) (h : 31 * i ≤ s.size) : joined (cutN s i) = s.extract 0 (31 * i) := by
  induction i with
  | zero =>
    have : (s.extract 0 (31 * 0)).size = 0 := by rw [ByteArray.size_extract]; omega
    rw [ByteArray.size_eq_zero_iff.1 this]
    rfl
  | succ i ih =>
    rw [cutN_succ, joined_append, ih (by omega), joined_one, chunk_rest, show 31 - min 31 (s.size - 31 * i) = 0 by omega, ← ByteArray.append_assoc, ByteArray.extract_append_extract]
    have hz : zerosB 0 = ByteArray.empty := rfl
    rw [hz, ByteArray.append_empty]
    congr 1 <;> omega
theorem joined_all (s : ByteArray) : (joined (cutN s (cntN s.size))).extract 0 s.size = s := by
  by_cases h0 : s.size = 0
  · have h : (s : ByteArray) = ByteArray.empty := ByteArray.size_eq_zero_iff.1 h0
    rw [h]
    rfl
  · obtain ⟨m, hm⟩ : ∃ m, cntN s.size = m + 1 := ⟨cntN s.size - 1, by unfold cntN; omega⟩
    have h1 : 31 * m ≤ s.size := by unfold cntN at hm; omega
    rw [hm, cutN_succ, joined_append, joined_cutN s m h1, joined_one, chunk_rest, ← ByteArray.append_assoc, ByteArray.extract_append_extract]
    have e : s.extract (min 0 (31 * m)) (max (31 * m) (31 * m + 31)) = s := by
      rw [← ext_clamp, show min 0 (31 * m) = 0 by omega, show min (max (31 * m) (31 * m + 31)) s.size = s.size by unfold cntN at hm; omega]
      exact ByteArray.extract_zero_size
    rw [e]
    exact ByteArray.extract_append_eq_left rfl
theorem joins_cut (s : ByteArray) (h : s.size ≤ 4096) : joins (cutP s) (s.size : Int) := by
  have e : cutP s = cutN s (cntN s.size) := by unfold cutP; rw [if_pos h]
  refine ⟨by rw [cutP_length s h, cntP_nat _ h], by rw [e]; exact odd_cutN _ _, ?_⟩
  rw [Int.toNat_natCast]
  conv => lhs; rw [e, joined_all]
theorem joinP_cut (s : ByteArray) (h : s.size ≤ 4096) : joinP (cutP s) (s.size : Int) = (s, true) := by
  have e : cutP s = cutN s (cntN s.size) := by unfold cutP; rw [if_pos h]
  unfold joinP
  rw [if_pos (joins_cut s h), Int.toNat_natCast, e, joined_all]
theorem bs_chunk (s : ByteArray) (i : Nat) : ∃ r, bs (chunk s i) = 68 :: r := by
  rw [chunk_eq, bs_append]
  exact ⟨_, rfl⟩
theorem bt_first {s : ByteArray} {c : Int} {r : List Int} (h : bs s = c :: r) : bt s 0 = c := by
  have hl : 0 < s.size := by rw [← bs_length, h]; simp
  have := bt_bs s 0 hl
  rw [show ((0 : Nat) : Int) = 0 from rfl] at this
  rw [this]
  simp only [h, List.getElem_cons_zero]
theorem chunk_first (s : ByteArray) (i : Nat) : bt (chunk s i) 0 = 68 := by
  obtain ⟨r, h⟩ := bs_chunk s i
  exact bt_first h
theorem headT_first (a b c d e : Int) : bt (headT a b c d e) 0 = 72 := bt_first (bs_headT a b c d e)
theorem chunk_no_head (s : ByteArray) (i : Nat) : ¬ isHead (chunk s i) := by
  intro h
  have := toList_inj h.2.2
  have h1 := chunk_first s i
  rw [← this, headT_first] at h1
  cases h1
theorem readP_chunk (s : ByteArray) (i : Nat) : readP (chunk s i) = (0, 0, 0, 0, 0, false) := by unfold readP; rw [if_neg (chunk_no_head s i)]
theorem bt_headT (a b c d e : Int) (i : Nat) (h : i < 32) : bt (headT a b c d e) (i : Int) = (headL a b c d e)[i]'(by show i < 32; exact h) := by
  rw [bt_bs _ i (by rw [headT_size]; exact h)]
  congr 1
  exact bs_headT a b c d e
theorem numAt_of {s : ByteArray} {i : Nat} {n : Int} (hn : 0 ≤ n ∧ n < 4294967296) (h0 : bt s (i : Int) = n / 16777216 % 256) (h1 : bt s ((i + 1 : Nat) : Int) = n / 65536 % 256) (h2 : bt s ((i + 2 : Nat) : Int) = n / 256 % 256) (h3 : bt s ((i + 3 : Nat) : Int) = n % 256) : numAt s (i : Int) = n := by
  unfold numAt
  rw [show (i : Int) + 1 = ((i + 1 : Nat) : Int) by omega, show (i : Int) + 2 = ((i + 2 : Nat) : Int) by omega, show (i : Int) + 3 = ((i + 3 : Nat) : Int) by omega, h0, h1, h2, h3]
  omega
theorem numAt_headT (a b c d e : Int) (hb : 0 ≤ b ∧ b < 4294967296) (hc : 0 ≤ c ∧ c < 4294967296) (hd : 0 ≤ d ∧ d < 4294967296) (he : 0 ≤ e ∧ e < 4294967296) :
    numAt (headT a b c d e) 2 = b ∧ numAt (headT a b c d e) 6 = c ∧ numAt (headT a b c d e) 10 = d ∧ numAt (headT a b c d e) 14 = e := by
  have B := fun i h => bt_headT a b c d e i h
  exact ⟨numAt_of (i := 2) hb (B 2 (by decide)) (B 3 (by decide)) (B 4 (by decide)) (B 5 (by decide)), numAt_of (i := 6) hc (B 6 (by decide)) (B 7 (by decide)) (B 8 (by decide)) (B 9 (by decide)),
    numAt_of (i := 10) hd (B 10 (by decide)) (B 11 (by decide)) (B 12 (by decide)) (B 13 (by decide)), numAt_of (i := 14) he (B 14 (by decide)) (B 15 (by decide)) (B 16 (by decide)) (B 17 (by decide))⟩
theorem readP_headT (a b c d e : Int) (h : mayP a b c d e) : readP (headT a b c d e) = (a, b, c, d, e, true) := by
  have h' := h
  unfold mayP okSum at h'
  obtain ⟨n1, n2, n3, n4⟩ := numAt_headT a b c d e (by omega) (by omega) (by omega) (by omega)
  have h1 : bt (headT a b c d e) 1 = a := by
    have := bt_headT a b c d e 1 (by decide)
    rw [show ((1 : Nat) : Int) = 1 from rfl] at this
    rw [this]
    show a % 256 = a
    omega
  have hh : isHead (headT a b c d e) := by
    unfold isHead
    rw [h1, n1, n2, n3, n4]
    exact ⟨headT_size a b c d e, h, rfl⟩
  unfold readP
  rw [if_pos hh, h1, n1, n2, n3, n4]
theorem joins_head (a b c d e : Int) (n : Int) : ¬ joins [headT a b c d e] n := by
  intro h
  have h1 := h.2.2
  unfold cutP at h1
  split at h1
  · rename_i hs
    generalize cntN ((joined [headT a b c d e]).extract 0 n.toNat).size = m at h1
    cases m with
    | zero => cases h1
    | succ m =>
      have h2 : (cutN ((joined [headT a b c d e]).extract 0 n.toNat) (m + 1))[0]? = some (headT a b c d e) := by rw [h1]; rfl
      have h3 : (cutN ((joined [headT a b c d e]).extract 0 n.toNat) (m + 1))[0]? = some (chunk ((joined [headT a b c d e]).extract 0 n.toNat) 0) := by simp [cutN]
      rw [h3] at h2
      have h4 := chunk_first ((joined [headT a b c d e]).extract 0 n.toNat) 0
      rw [Option.some.inj h2, headT_first] at h4
      cases h4
  · cases h1
end Go.Proofs.Ytajgpmeilpjadaa.Pl
