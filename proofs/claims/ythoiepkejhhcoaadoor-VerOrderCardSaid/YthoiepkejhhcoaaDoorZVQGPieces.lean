/- Pieces of a text at a byte c. No program in sight. -/
import Derived.Test.YthoiepkejhhcoaaDoorZVQM0
import Derived.Lib.Bytealg
set_option linter.unusedVariables false
set_option linter.unusedSimpArgs false
namespace Go.Proofs.YthoiepkejhhcoaaDoor.P
open Go.RowKit Go.Proofs.YthoiepkejhhcoaaDoorW.PrintWords Go.Proofs.YthoiepkejhhcoaaDoorW.PrintLast Go.Proofs.YthoiepkejhhcoaaDoorW.PrintMore
theorem gw64 {x : Int} (h0 : -9223372036854775808 ≤ x) (h1 : x ≤ 9223372036854775807) : wrap64 x = x := by
  unfold wrap64; omega
theorem bt_nat (s : ByteArray) (i : Nat) (h : i < s.size) : bt s (i : Int) = ((s[i]).toNat : Int) := by
  have := bt_at s (i : Int) (by simpa using h)
  simp only [Int.toNat_natCast] at this
  exact this.symm
theorem bt_ext (s : ByteArray) (p a j : Nat) (ha : a ≤ s.size) (hj : p + j < a) : bt (s.extract p a) (j : Int) = bt s ((p + j : Nat) : Int) := by
  have h1 : j < (s.extract p a).size := by rw [ByteArray.size_extract]; omega
  rw [bt_nat _ j h1, bt_nat s (p + j) (by omega), ByteArray.getElem_extract]
theorem tl_inj {a b : ByteArray} (h : a.data.toList = b.data.toList) : a = b := by
  obtain ⟨⟨a⟩⟩ := a
  obtain ⟨⟨b⟩⟩ := b
  simp at h; rw [h]
theorem toList_nil (s : ByteArray) : s.toList = ([] : List UInt8) ↔ s.size = 0 := by
  rw [ByteArray.toList_eq, Array.toList_eq_nil_iff]
  constructor
  · intro h; show s.data.size = 0; rw [h]; rfl
  · intro h; exact Array.eq_empty_of_size_eq_zero h
theorem ext_ext (s : ByteArray) (a b c d : Nat) (h : a + d ≤ b) : (s.extract a b).extract c d = s.extract (a + c) (a + d) := by
  rw [ByteArray.extract_extract]
  congr 1
  omega
theorem ext_all (s : ByteArray) : s.extract 0 s.size = s := ByteArray.extract_zero_size
def ix (c : UInt8) (s : ByteArray) : Nat := (Lib.indexByte s.data.toList c).toNat
def cnt (c : UInt8) (s : ByteArray) : Nat := Lib.countByte s.data.toList c
def pieces (c : UInt8) : Nat → ByteArray → List ByteArray
  | 0, s => [s]
  | k + 1, s => s.extract 0 (ix c s) :: pieces c k (s.extract (ix c s + 1) s.size)
theorem pieces_length (c : UInt8) : ∀ (k : Nat) (s : ByteArray), (pieces c k s).length = k + 1
  | 0, _ => rfl
  | k + 1, s => by rw [pieces, List.length_cons, pieces_length c k]
theorem index_of_count (c : UInt8) (l : List UInt8) : 0 < l.count c → 0 ≤ Lib.indexByte l c ∧ Lib.indexByte l c < l.length ∧ (l.drop ((Lib.indexByte l c).toNat + 1)).count c + 1 = l.count c := by
  induction l with
  | nil => intro h; simp at h
  | cons b l ih =>
    intro h
    unfold Lib.indexByte
    by_cases e : (b == c) = true
    · rw [if_pos e, List.count_cons, if_pos e]; simp
    · rw [if_neg e]
      rw [List.count_cons, if_neg e, Nat.add_zero] at h ⊢
      obtain ⟨h1, h2, h3⟩ := ih h
      have c2 : ¬ (Lib.indexByte l c == -1) = true := by rw [beq_iff_eq]; omega
      rw [if_neg c2]
      refine ⟨by omega, by rw [List.length_cons]; omega, ?_⟩
      rw [show (Lib.indexByte l c + 1).toNat = (Lib.indexByte l c).toNat + 1 by omega, List.drop_succ_cons]
      exact h3
theorem index_none (c : UInt8) (l : List UInt8) : l.count c = 0 → Lib.indexByte l c = -1 := by
  induction l with
  | nil => intro _; rfl
  | cons b l ih =>
    intro h
    unfold Lib.indexByte
    by_cases e : (b == c) = true
    · rw [List.count_cons, if_pos e] at h; omega
    · rw [if_neg e]
      rw [List.count_cons, if_neg e, Nat.add_zero] at h
      rw [ih h]; rfl
theorem cnt_none {c : UInt8} {s : ByteArray} (h : cnt c s = 0) : Lib.indexByte s.data.toList c = -1 := index_none c _ h
theorem cnt_pos {c : UInt8} {s : ByteArray} (h : 0 < cnt c s) : Lib.indexByte s.data.toList c = (ix c s : Int) ∧ ix c s < s.size ∧ cnt c (s.extract (ix c s + 1) s.size) + 1 = cnt c s := by
  obtain ⟨h1, h2, h3⟩ := index_of_count c s.data.toList h
  have hz : s.data.toList.length = s.size := by rw [Array.length_toList]; rfl
  refine ⟨by unfold ix; omega, by unfold ix; omega, ?_⟩
  unfold cnt Lib.countByte ix
  rw [ByteArray.data_extract, Array.toList_extract, List.extract_eq_take_drop]
  rw [List.take_of_length_le (by rw [List.length_drop]; omega)]
  exact h3
theorem cnt_le (c : UInt8) (s : ByteArray) : cnt c s ≤ s.size := by
  have hz : s.data.toList.length = s.size := by rw [Array.length_toList]; rfl
  have := List.count_le_length (a := c) (l := s.data.toList)
  unfold cnt Lib.countByte; omega
theorem pieces_sizes (c : UInt8) : ∀ (k : Nat) (s : ByteArray), ∀ x ∈ pieces c k s, x.size ≤ s.size
  | 0, s, x, h => by simp [pieces] at h; subst h; omega
  | k + 1, s, x, h => by
    rw [pieces] at h
    rcases List.mem_cons.1 h with rfl | h
    · rw [ByteArray.size_extract]; omega
    · have := pieces_sizes c k _ x h
      rw [ByteArray.size_extract] at this; omega
/-- The pieces from `fr` on, the bytes ahead of i being no sign. -/
def sp (c : Int) (s : ByteArray) : Nat → Nat → Nat → List ByteArray
  | 0, fr, _ => [s.extract fr s.size]
  | n + 1, fr, i => if bt s (i : Int) = c then s.extract fr i :: sp c s n (i + 1) (i + 1) else sp c s n fr (i + 1)
theorem sp_none (c : Int) (s : ByteArray) : ∀ (n fr i : Nat), n + i = s.size → (∀ j, i ≤ j → j < s.size → bt s (j : Int) ≠ c) → sp c s n fr i = [s.extract fr s.size]
  | 0, fr, i, _, _ => rfl
  | n + 1, fr, i, hn, h => by rw [sp, if_neg (h i (Nat.le_refl _) (by omega))]; exact sp_none c s n fr (i + 1) (by omega) (fun j h1 h2 => h j (by omega) h2)
theorem sp_first (c : Int) (s : ByteArray) (j : Nat) (hj : j < s.size) (hb : bt s (j : Int) = c) : ∀ (n fr i : Nat), n + i = s.size → i ≤ j → (∀ m, i ≤ m → m < j → bt s (m : Int) ≠ c) → sp c s n fr i = s.extract fr j :: sp c s (s.size - (j + 1)) (j + 1) (j + 1)
  | 0, fr, i, hn, hi, _ => by omega
  | n + 1, fr, i, hn, hi, h => by
    by_cases e : i = j
    · subst e
      rw [sp, if_pos hb, show s.size - (i + 1) = n by omega]
    · rw [sp, if_neg (h i (Nat.le_refl _) (by omega))]
      exact sp_first c s j hj hb n fr (i + 1) (by omega) (by omega) (fun m h1 h2 => h m (by omega) h2)
theorem indexByte_at (c : UInt8) (l : List UInt8) : ∀ m : Nat, Lib.indexByte l c = (m : Int) → l[m]? = some c ∧ ∀ j, j < m → l[j]? ≠ some c := by
  induction l with
  | nil => intro m h; simp [Lib.indexByte] at h
  | cons b l ih =>
    intro m h
    unfold Lib.indexByte at h
    by_cases e : (b == c) = true
    · rw [if_pos e] at h
      obtain rfl : m = 0 := by omega
      refine ⟨by rw [beq_iff_eq] at e; simp [e], fun j hj => by omega⟩
    · rw [if_neg e] at h
      by_cases c2 : (Lib.indexByte l c == -1) = true
      · rw [if_pos c2] at h; omega
      · rw [if_neg c2] at h
        have hge := Lib.indexByte_ge l c
        rw [beq_iff_eq] at c2
        obtain ⟨m', rfl⟩ : ∃ m', m = m' + 1 := ⟨m - 1, by omega⟩
        obtain ⟨h1, h2⟩ := ih m' (by omega)
        refine ⟨by simpa using h1, fun j hj => ?_⟩
        cases j with
        | zero => simp; rw [beq_iff_eq] at e; exact e
        | succ j => simpa using h2 j (by omega)
theorem bt_get (c : UInt8) (x : ByteArray) (m : Nat) (h : m < x.size) : (bt x (m : Int) = (c.toNat : Int)) ↔ x.data.toList[m]? = some c := by
  have hz : x.data.toList.length = x.size := by rw [Array.length_toList]; rfl
  rw [bt_nat x m h, List.getElem?_eq_getElem (by omega)]
  have e : x.data.toList[m]'(by omega) = x[m] := by rw [Array.getElem_toList]; rfl
  rw [e]
  constructor
  · intro h; congr 1; exact UInt8.toNat_inj.1 (by omega)
  · intro h; rw [Option.some.inj h]
theorem cnt_zero {c : UInt8} {x : ByteArray} (h : cnt c x = 0) (m : Nat) (hm : m < x.size) : bt x (m : Int) ≠ (c.toNat : Int) := by
  intro e
  rw [bt_get c x m hm] at e
  have : c ∈ x.data.toList := List.mem_of_getElem? e
  have := List.count_pos_iff.2 this
  unfold cnt Lib.countByte at h
  omega
theorem cnt_first {c : UInt8} {x : ByteArray} (h : 0 < cnt c x) : ix c x < x.size ∧ bt x (ix c x : Int) = (c.toNat : Int) ∧ (∀ m, m < ix c x → bt x (m : Int) ≠ (c.toNat : Int)) ∧ cnt c (x.extract (ix c x + 1) x.size) + 1 = cnt c x := by
  obtain ⟨h1, h2, h3⟩ := cnt_pos h
  obtain ⟨g1, g2⟩ := indexByte_at c x.data.toList (ix c x) h1
  exact ⟨h2, (bt_get c x _ h2).2 g1, fun m hm e => g2 m hm ((bt_get c x m (by omega)).1 e), h3⟩
theorem ext_size {s : ByteArray} (a b : Nat) (ha : b ≤ s.size) : (s.extract a b).size = b - a := by rw [ByteArray.size_extract]; omega
theorem pieces_sp (b : UInt8) (s : ByteArray) : ∀ (c a : Nat), a ≤ s.size → cnt b (s.extract a s.size) = c → pieces b c (s.extract a s.size) = sp (b.toNat : Int) s (s.size - a) a a
  | 0, a, ha, hc => by
    have hz := ext_size (s := s) a s.size (Nat.le_refl _)
    rw [sp_none _ s _ a a (by omega) (fun j h1 h2 => by
      have := cnt_zero hc (j - a) (by omega)
      rw [bt_ext s a s.size (j - a) (Nat.le_refl _) (by omega), show a + (j - a) = j by omega] at this
      exact this)]
    rfl
  | c + 1, a, ha, hc => by
    have hz := ext_size (s := s) a s.size (Nat.le_refl _)
    obtain ⟨h1, h2, h3, h4⟩ := cnt_first (c := b) (x := s.extract a s.size) (by omega)
    rw [pieces]
    generalize ix b (s.extract a s.size) = m at *
    rw [hz] at h1 h4
    rw [bt_ext s a s.size m (Nat.le_refl _) (by omega)] at h2
    have e1 : (s.extract a s.size).extract (m + 1) (s.size - a) = s.extract (a + m + 1) s.size := by
      rw [ext_ext s a s.size (m + 1) (s.size - a) (by omega)]
      congr 1; omega
    rw [hz, e1, ext_ext s a s.size 0 m (by omega)]
    rw [e1] at h4
    rw [sp_first _ s (a + m) (by omega) h2 _ a a (by omega) (by omega) (fun j g1 g2 => by
      have := h3 (j - a) (by omega)
      rw [bt_ext s a s.size (j - a) (Nat.le_refl _) (by omega), show a + (j - a) = j by omega] at this
      exact this)]
    rw [pieces_sp b s c (a + m + 1) (by omega) (by omega)]
    rfl
/-- All pieces. -/
def spl (c : UInt8) (s : ByteArray) : List ByteArray := pieces c (cnt c s) s
theorem spl_sp (c : UInt8) (s : ByteArray) : spl c s = sp (c.toNat : Int) s s.size 0 0 := by
  have h := pieces_sp c s (cnt c (s.extract 0 s.size)) 0 (Nat.zero_le _) rfl
  rw [ext_all] at h
  exact h
theorem spl_length (c : UInt8) (s : ByteArray) : (spl c s).length = cnt c s + 1 := pieces_length c _ s
theorem spl_sizes (c : UInt8) (s : ByteArray) : ∀ x ∈ spl c s, x.size ≤ s.size := pieces_sizes c _ s
end Go.Proofs.YthoiepkejhhcoaaDoor.P
