/- Pieces of a text at a byte c. No program in sight. -/
import Derived.Test.YthoiepkejhhcoaaDoorZVPM0
import Derived.Lib.Bytealg
set_option linter.unusedVariables false
set_option linter.unusedSimpArgs false
namespace Go.Proofs.YthoiepkejhhcoaaDoor.P
open Go.RowKit Go.Proofs.YthoiepkejhhcoaaDoorW.PrintWords Go.Proofs.YthoiepkejhhcoaaDoorW.PrintLast Go.Proofs.YthoiepkejhhcoaaDoorW.PrintMore
theorem gw64 {x : Int} (h0 : -9223372036854775808 ≤ x) (h1 : x ≤ 9223372036854775807) : wrap64 x = x := by
  unfold wrap64; omega
theorem bt_nat (s : ByteArray) (i : Nat) (h : i < s.size) : bt s (i : Int) = ((s[i]).toNat : Int) := by
  have := bt_at s (i : Int) (by simpa using h)
  simp only [Int.toNat_natCast] at this
  exact this.symm
theorem tl_inj {a b : ByteArray} (h : a.data.toList = b.data.toList) : a = b := by
  obtain ⟨⟨a⟩⟩ := a
  obtain ⟨⟨b⟩⟩ := b
  simp at h; rw [h]
theorem toList_nil (s : ByteArray) : s.toList = ([] : List UInt8) ↔ s.size = 0 := by
  rw [ByteArray.toList_eq, Array.toList_eq_nil_iff]
  constructor
  · intro h; show s.data.size = 0; rw [h]; rfl
  · intro h; exact Array.eq_empty_of_size_eq_zero h
def ix (c : UInt8) (s : ByteArray) : Nat := (Lib.indexByte s.data.toList c).toNat
def cnt (c : UInt8) (s : ByteArray) : Nat := Lib.countByte s.data.toList c
def pieces (c : UInt8) : Nat → ByteArray → List ByteArray
  | 0, s => [s]
  | k + 1, s => s.extract 0 (ix c s) :: pieces c k (s.extract (ix c s + 1) s.size)
theorem pieces_length (c : UInt8) : ∀ (k : Nat) (s : ByteArray), (pieces c k s).length = k + 1
  | 0, _ => rfl
  | k + 1, s => by rw [pieces, List.length_cons, pieces_length c k]
theorem index_of_count (c : UInt8) (l : List UInt8) : 0 < l.count c → 0 ≤ Lib.indexByte l c ∧ Lib.indexByte l c < l.length ∧ (l.drop ((Lib.indexByte l c).toNat + 1)).count c + 1 = l.count c := by
  induction l with
  | nil => intro h; simp at h
  | cons b l ih =>
    intro h
    unfold Lib.indexByte
    by_cases e : (b == c) = true
    · rw [if_pos e, List.count_cons, if_pos e]; simp
    · rw [if_neg e]
      rw [List.count_cons, if_neg e, Nat.add_zero] at h ⊢
      obtain ⟨h1, h2, h3⟩ := ih h
      have c2 : ¬ (Lib.indexByte l c == -1) = true := by rw [beq_iff_eq]; omega
      rw [if_neg c2]
      refine ⟨by omega, by rw [List.length_cons]; omega, ?_⟩
      rw [show (Lib.indexByte l c + 1).toNat = (Lib.indexByte l c).toNat + 1 by omega, List.drop_succ_cons]
      exact h3
theorem index_none (c : UInt8) (l : List UInt8) : l.count c = 0 → Lib.indexByte l c = -1 := by
  induction l with
  | nil => intro _; rfl
  | cons b l ih =>
    intro h
    unfold Lib.indexByte
    by_cases e : (b == c) = true
    · rw [List.count_cons, if_pos e] at h; omega
    · rw [if_neg e]
      rw [List.count_cons, if_neg e, Nat.add_zero] at h
      rw [ih h]; rfl
theorem cnt_none {c : UInt8} {s : ByteArray} (h : cnt c s = 0) : Lib.indexByte s.data.toList c = -1 := index_none c _ h
theorem cnt_pos {c : UInt8} {s : ByteArray} (h : 0 < cnt c s) : Lib.indexByte s.data.toList c = (ix c s : Int) ∧ ix c s < s.size ∧ cnt c (s.extract (ix c s + 1) s.size) + 1 = cnt c s := by
  obtain ⟨h1, h2, h3⟩ := index_of_count c s.data.toList h
  have hz : s.data.toList.length = s.size := by rw [Array.length_toList]; rfl
  refine ⟨by unfold ix; omega, by unfold ix; omega, ?_⟩
  unfold cnt Lib.countByte ix
  rw [ByteArray.data_extract, Array.toList_extract, List.extract_eq_take_drop]
  rw [List.take_of_length_le (by rw [List.length_drop]; omega)]
  exact h3
theorem cnt_le (c : UInt8) (s : ByteArray) : cnt c s ≤ s.size := by
  have hz : s.data.toList.length = s.size := by rw [Array.length_toList]; rfl
  have := List.count_le_length (a := c) (l := s.data.toList)
  unfold cnt Lib.countByte; omega
theorem pieces_sizes (c : UInt8) : ∀ (k : Nat) (s : ByteArray), ∀ x ∈ pieces c k s, x.size ≤ s.size
  | 0, s, x, h => by simp [pieces] at h; subst h; omega
  | k + 1, s, x, h => by
    rw [pieces] at h
    rcases List.mem_cons.1 h with rfl | h
    · rw [ByteArray.size_extract]; omega
    · have := pieces_sizes c k _ x h
      rw [ByteArray.size_extract] at this; omega
/-- The pieces from `fr` on, the bytes ahead of i being no sign. -/
def sp (c : Int) (s : ByteArray) : Nat → Nat → Nat → List ByteArray
  | 0, fr, _ => [s.extract fr s.size]
  | n + 1, fr, i => if bt s (i : Int) = c then s.extract fr i :: sp c s n (i + 1) (i + 1) else sp c s n fr (i + 1)
/-- All pieces. -/
def spl (c : UInt8) (s : ByteArray) : List ByteArray := pieces c (cnt c s) s
theorem spl_length (c : UInt8) (s : ByteArray) : (spl c s).length = cnt c s + 1 := pieces_length c _ s
theorem spl_sizes (c : UInt8) (s : ByteArray) : ∀ x ∈ spl c s, x.size ≤ s.size := pieces_sizes c _ s
end Go.Proofs.YthoiepkejhhcoaaDoor.P
