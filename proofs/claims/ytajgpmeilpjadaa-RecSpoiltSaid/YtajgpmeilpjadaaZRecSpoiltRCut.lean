/- rec's sectors: what Cut, Count and Join come to, of the program and of the document. -/
import Derived.Test.YtajgpmeilpjadaaZRecSpoiltRHead
import Derived.Test.YtajgpmeilpjadaaZRecSpoiltGJoin
import Derived.Test.YtajgpmeilpjadaaZRecSpoiltM0
set_option linter.unusedVariables false
set_option linter.unusedSimpArgs false
namespace Go.Proofs.Ytajgpmeilpjadaa.Pl
set_option linter.unusedSimpArgs false
open Go.RowKit Go.Proofs.Ytajgpmeilpjadaa.P Go.Proofs.YtajgpmeilpjadaaW.PrintWords Go.Proofs.YtajgpmeilpjadaaW.PrintLast Go.Proofs.YtajgpmeilpjadaaW.PrintMore
def D1 : ByteArray := ⟨#[68]⟩
theorem D1_size : D1.size = 1 := rfl
def fillB (s : ByteArray) : ByteArray := s ++ zerosB (32 - s.size)
theorem fillB_size (s : ByteArray) (h : s.size ≤ 32) : (fillB s).size = 32 := by unfold fillB; rw [ByteArray.size_append, zerosB_size]; omega
/-- The sector of a place of a payload. -/
def chunk (s : ByteArray) (i : Nat) : ByteArray := fillB (D1 ++ s.extract (31 * i) (31 * i + 31))
theorem part_size (s : ByteArray) (i : Nat) : (s.extract (31 * i) (31 * i + 31)).size = min 31 (s.size - 31 * i) := by rw [ByteArray.size_extract]; omega
theorem chunk_size (s : ByteArray) (i : Nat) : (chunk s i).size = 32 := fillB_size _ (by rw [ByteArray.size_append, D1_size, part_size]; omega)
def cutN (s : ByteArray) (n : Nat) : List ByteArray := (List.range n).map (chunk s)
theorem cutN_succ (s : ByteArray) (n : Nat) : cutN s (n + 1) = cutN s n ++ [chunk s n] := by unfold cutN; rw [List.range_succ, List.map_append]; rfl
theorem cutN_length (s : ByteArray) (n : Nat) : (cutN s n).length = n := by simp [cutN]
def cntN (n : Nat) : Nat := (n + 30) / 31
def cutP (s : ByteArray) : List ByteArray := if s.size ≤ 4096 then cutN s (cntN s.size) else []
theorem toList_nil (s : ByteArray) : s.toList = [] ↔ s.size = 0 := by
  rw [ByteArray.toList_eq]
  constructor
  · intro h
    have := congrArg List.length h
    simpa using this
  · intro h
    have : s.data.toList.length = 0 := by simpa using h
    exact List.eq_nil_of_length_eq_zero this
theorem mn_min (a b : Nat) : mn (a : Int) (b : Int) = ((min a b : Nat) : Int) := by unfold mn; split <;> omega
theorem ext_clamp (s : ByteArray) (a b : Nat) : s.extract a (min b s.size) = s.extract a b := by
  have h : s = s.extract 0 s.size := ByteArray.extract_zero_size.symm
  conv => rhs; rw [h, ByteArray.extract_extract]
  rw [Nat.zero_add, Nat.zero_add]
theorem cut_l0 (s : ByteArray) (hs : s.size ≤ 4096) (d : Nat) : ∀ (k i : Nat), cntN s.size - i = d → i ≤ cntN s.size → d < k → rec_Cut.l0 k (s.extract (31 * i) s.size) (cutN s i) = some (cutN s (cntN s.size)) := by
  induction d with
  | zero =>
    intro k i hd hi hk
    obtain ⟨k, rfl⟩ : ∃ m, k = m + 1 := ⟨k - 1, by omega⟩
    obtain rfl : i = cntN s.size := by omega
    rw [rec_Cut.l0, if_pos ((toList_nil _).2 (by rw [ByteArray.size_extract]; unfold cntN; omega))]
  | succ d ih =>
    intro k i hd hi hk
    obtain ⟨k, rfl⟩ : ∃ m, k = m + 1 := ⟨k - 1, by omega⟩
    have hlt : 31 * i < s.size := by unfold cntN at *; omega
    have hz : (s.extract (31 * i) s.size).size = s.size - 31 * i := by rw [ByteArray.size_extract]; omega
    have hm : mn 31 ((s.extract (31 * i) s.size).size : Int) = ((min 31 (s.size - 31 * i) : Nat) : Int) := by rw [hz]; exact mn_min 31 _
    have e1 : (s.extract (31 * i) s.size).extract 0 (min 31 (s.size - 31 * i)) = s.extract (31 * i) (31 * i + 31) := by
      rw [ByteArray.extract_extract, Nat.add_zero, ← ext_clamp s (31 * i) (31 * i + 31)]
      congr 1
      omega
    have e2 : (s.extract (31 * i) s.size).extract (min 31 (s.size - 31 * i)) (s.size - 31 * i) = s.extract (31 * (i + 1)) s.size := by
      rw [ByteArray.extract_extract]
      by_cases h : 31 ≤ s.size - 31 * i
      · congr 1 <;> omega
      · have a : (s.extract (31 * (i + 1)) s.size).size = 0 := by rw [ByteArray.size_extract]; omega
        have b : (s.extract (31 * i + min 31 (s.size - 31 * i)) (min (31 * i + (s.size - 31 * i)) s.size)).size = 0 := by rw [ByteArray.size_extract]; omega
        rw [ByteArray.size_eq_zero_iff.1 a, ByteArray.size_eq_zero_iff.1 b]
    rw [rec_Cut.l0, if_neg (fun h => by have := (toList_nil _).1 h; omega), hm, hz, if_pos (by omega), if_pos (by omega), Int.toNat_natCast, e1, e2, if_pos (by rw [part_size]; omega),
      filled_spec _ (by show (D1 ++ _).size ≤ 32; rw [ByteArray.size_append, D1_size, part_size]; omega)]
    rw [Option.bind_some, if_pos (by rw [cutN_length]; unfold cntN at *; omega)]
    rw [← ih k (i + 1) (by omega) (by omega) (by omega), cutN_succ]
    rfl
theorem Cut_spec (s : ByteArray) (k : Nat) (hk : 140 ≤ k) : rec_Cut.f k s = some (cutP s) := by
  unfold rec_Cut.f cutP
  by_cases h : (s.size : Int) > 4096
  · rw [if_pos h, if_neg (by omega)]
  · rw [if_neg h, if_pos (by omega)]
    have := cut_l0 s (by omega) (cntN s.size) k 0 (by omega) (by omega) (by unfold cntN; omega)
    rw [Nat.mul_zero, ByteArray.extract_zero_size] at this
    exact this
def cntP (n : Int) : Int := if 0 ≤ n ∧ n ≤ 4096 then (n + 30) / 31 else -1
theorem Count_spec (n : Int) : rec_Count.f n = some (cntP n) := by
  unfold rec_Count.f cntP
  rw [in_spec]
  simp only [Option.bind_some]
  by_cases h : 0 ≤ n ∧ n ≤ 4096
  · rw [if_pos (decide_eq_true h), if_pos h, w64 (x := n + 31) (by omega) (by omega), w64 (x := n + 31 - 1) (by omega) (by omega), tdiv_pos (by omega), w64 (by omega) (by omega)]
    congr 1
    omega
  · rw [if_neg (by simpa using h), if_neg h]
theorem toList_inj {a b : ByteArray} (h : a.toList = b.toList) : a = b := by
  rw [ByteArray.toList_eq, ByteArray.toList_eq] at h
  exact ByteArray.ext (Array.toList_inj.1 h)
theorem rdOf_get (l : List ByteArray) (i : Nat) (h : i < l.length) : rdOf ByteArray.empty l (i : Int) = l[i] := by
  unfold rdOf
  rw [Int.toNat_natCast, List.getD_eq_getElem?_getD, List.getElem?_eq_getElem h]
  rfl
theorem eq_l0 (a b : List ByteArray) (hl : a.length = b.length) (hm : a.length ≤ 9223372036854775807) (d : Nat) : ∀ (k i : Nat), a.length - i = d → i ≤ a.length → d < k →
    slices_Equal_string_string.l0 k a b (a.length : Int) (i : Int) = some (decide (a.drop i = b.drop i)) := by
  induction d with
  | zero =>
    intro k i hd hi hk
    obtain ⟨k, rfl⟩ : ∃ m, k = m + 1 := ⟨k - 1, by omega⟩
    rw [slices_Equal_string_string.l0, if_neg (by omega), List.drop_of_length_le (by omega), List.drop_of_length_le (by omega)]
    rfl
  | succ d ih =>
    intro k i hd hi hk
    obtain ⟨k, rfl⟩ : ∃ m, k = m + 1 := ⟨k - 1, by omega⟩
    have ha : i < a.length := by omega
    have hb : i < b.length := by omega
    rw [slices_Equal_string_string.l0, if_pos (by omega), if_pos (by omega), if_pos (by omega), if_pos (by omega), rdOf_get a i ha, rdOf_get b i hb, List.drop_eq_getElem_cons ha, List.drop_eq_getElem_cons hb]
    by_cases h : a[i] = b[i]
    · rw [if_pos (by rw [h]), w64 (by omega) (by omega)]
      refine (ih k (i + 1) (by omega) (by omega) (by omega)).trans ?_
      congr 1
      rw [decide_eq_decide]
      simp only [List.cons.injEq, h, true_and]
    · rw [if_neg (fun h2 => h (toList_inj h2))]
      congr 1
      symm
      apply decide_eq_false
      simp only [List.cons.injEq, h, false_and, not_false_eq_true]
theorem Equal_spec (a b : List ByteArray) (hm : a.length ≤ 9223372036854775807) (k : Nat) (hk : a.length < k) : slices_Equal_string_string.f k a b = some (decide (a = b)) := by
  unfold slices_Equal_string_string.f
  by_cases h : a.length = b.length
  · rw [if_pos (by omega)]
    have := eq_l0 a b h hm a.length k 0 (by omega) (by omega) hk
    simpa using this
  · rw [if_neg (by omega)]
    congr 1
    symm
    exact decide_eq_false (fun e => h (by rw [e]))
end Go.Proofs.Ytajgpmeilpjadaa.Pl
