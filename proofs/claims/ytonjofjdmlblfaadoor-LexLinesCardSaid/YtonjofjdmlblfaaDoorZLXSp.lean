/- lex: pieces of a text, byte by byte; the document's Split is the program's Split. -/
import Derived.Test.YtonjofjdmlblfaaDoorZLM2
import Derived.Test.YtonjofjdmlblfaaDoorZLM0
import Derived.Test.YtonjofjdmlblfaaDoorZLXRef
import Derived.Test.YtonjofjdmlblfaaDoorZLXBlank
set_option linter.unusedVariables false
set_option linter.unusedSimpArgs false
namespace Go.Proofs.YtonjofjdmlblfaaDoor.P
open Go.RowKit Go.Proofs.YtonjofjdmlblfaaDoorW.PrintWords Go.Proofs.YtonjofjdmlblfaaDoorW.PrintLast Go.Proofs.YtonjofjdmlblfaaDoorW.PrintMore
/-- The pieces from `fr` on, the bytes ahead of i being no sign. -/
def sp (s : ByteArray) : Nat → Nat → Nat → List ByteArray
  | 0, fr, _ => [s.extract fr s.size]
  | n + 1, fr, i => if bt s (i : Int) = 10 then s.extract fr i :: sp s n (i + 1) (i + 1) else sp s n fr (i + 1)
theorem sp_none (s : ByteArray) : ∀ (n fr i : Nat), n + i = s.size → (∀ j, i ≤ j → j < s.size → bt s (j : Int) ≠ 10) → sp s n fr i = [s.extract fr s.size]
  | 0, fr, i, _, _ => rfl
  | n + 1, fr, i, hn, h => by rw [sp, if_neg (h i (Nat.le_refl _) (by omega))]; exact sp_none s n fr (i + 1) (by omega) (fun j h1 h2 => h j (by omega) h2)
theorem sp_first (s : ByteArray) (j : Nat) (hj : j < s.size) (hb : bt s (j : Int) = 10) : ∀ (n fr i : Nat), n + i = s.size → i ≤ j → (∀ m, i ≤ m → m < j → bt s (m : Int) ≠ 10) → sp s n fr i = s.extract fr j :: sp s (s.size - (j + 1)) (j + 1) (j + 1)
  | 0, fr, i, hn, hi, _ => by omega
  | n + 1, fr, i, hn, hi, h => by
    by_cases c : i = j
    · subst c
      rw [sp, if_pos hb, show s.size - (i + 1) = n by omega]
    · rw [sp, if_neg (h i (Nat.le_refl _) (by omega))]
      exact sp_first s j hj hb n fr (i + 1) (by omega) (by omega) (fun m h1 h2 => h m (by omega) h2)
theorem indexByte_at (l : List UInt8) : ∀ m : Nat, Lib.indexByte l 10 = (m : Int) → l[m]? = some 10 ∧ ∀ j, j < m → l[j]? ≠ some 10 := by
  induction l with
  | nil => intro m h; simp [Lib.indexByte] at h
  | cons b l ih =>
    intro m h
    unfold Lib.indexByte at h
    by_cases c : (b == 10) = true
    · rw [if_pos c] at h
      obtain rfl : m = 0 := by omega
      refine ⟨by rw [beq_iff_eq] at c; simp [c], fun j hj => by omega⟩
    · rw [if_neg c] at h
      by_cases c2 : (Lib.indexByte l 10 == -1) = true
      · rw [if_pos c2] at h; omega
      · rw [if_neg c2] at h
        have hge := Lib.indexByte_ge l 10
        rw [beq_iff_eq] at c2
        obtain ⟨m', rfl⟩ : ∃ m', m = m' + 1 := ⟨m - 1, by omega⟩
        obtain ⟨h1, h2⟩ := ih m' (by omega)
        refine ⟨by simpa using h1, fun j hj => ?_⟩
        cases j with
        | zero => simp; rw [beq_iff_eq] at c; exact c
        | succ j => simpa using h2 j (by omega)
theorem bt_get (x : ByteArray) (m : Nat) (h : m < x.size) : (bt x (m : Int) = 10) ↔ x.data.toList[m]? = some 10 := by
  have hz : x.data.toList.length = x.size := by rw [Array.length_toList]; rfl
  rw [bt_nat x m h, List.getElem?_eq_getElem (by omega)]
  have e : x.data.toList[m]'(by omega) = x[m] := by rw [Array.getElem_toList]; rfl
  rw [e]
  constructor
  · intro h; congr 1; exact UInt8.toNat_inj.1 (by have : (x[m]).toNat = 10 := by omega
                                                  rw [this]; rfl)
  · intro h; rw [Option.some.inj h]; rfl
theorem cnt_zero {x : ByteArray} (h : cnt x = 0) (m : Nat) (hm : m < x.size) : bt x (m : Int) ≠ 10 := by
  intro e
  rw [bt_get x m hm] at e
  have : (10 : UInt8) ∈ x.data.toList := List.mem_of_getElem? e
  have := List.count_pos_iff.2 this
  unfold cnt Lib.countByte at h
  omega
theorem cnt_first {x : ByteArray} (h : 0 < cnt x) : ix x < x.size ∧ bt x (ix x : Int) = 10 ∧ (∀ m, m < ix x → bt x (m : Int) ≠ 10) ∧ cnt (x.extract (ix x + 1) x.size) + 1 = cnt x := by
  obtain ⟨h1, h2, h3⟩ := cnt_pos h
  obtain ⟨g1, g2⟩ := indexByte_at x.data.toList (ix x) h1
  exact ⟨h2, (bt_get x _ h2).2 g1, fun m hm e => g2 m hm ((bt_get x m (by omega)).1 e), h3⟩
theorem ext_size {s : ByteArray} (a b : Nat) (ha : b ≤ s.size) : (s.extract a b).size = b - a := by rw [ByteArray.size_extract]; omega
theorem ext_ext (s : ByteArray) (a b c d : Nat) (h : a + d ≤ b) : (s.extract a b).extract c d = s.extract (a + c) (a + d) := by
  rw [ByteArray.extract_extract]
  congr 1
  omega
theorem pieces_sp (s : ByteArray) : ∀ (c a : Nat), a ≤ s.size → cnt (s.extract a s.size) = c → pieces c (s.extract a s.size) = sp s (s.size - a) a a
  | 0, a, ha, hc => by
    have hz := ext_size (s := s) a s.size (Nat.le_refl _)
    rw [sp_none s _ a a (by omega) (fun j h1 h2 => by
      have := cnt_zero hc (j - a) (by omega)
      rw [bt_ext s a s.size (j - a) (Nat.le_refl _) (by omega), show a + (j - a) = j by omega] at this
      exact this)]
    rfl
  | c + 1, a, ha, hc => by
    have hz := ext_size (s := s) a s.size (Nat.le_refl _)
    obtain ⟨h1, h2, h3, h4⟩ := cnt_first (x := s.extract a s.size) (by omega)
    rw [pieces]
    generalize ix (s.extract a s.size) = m at *
    rw [hz] at h1 h4
    rw [bt_ext s a s.size m (Nat.le_refl _) (by omega)] at h2
    have e1 : (s.extract a s.size).extract (m + 1) (s.size - a) = s.extract (a + m + 1) s.size := by
      rw [ext_ext s a s.size (m + 1) (s.size - a) (by omega)]
      congr 1; omega
    rw [hz, e1, ext_ext s a s.size 0 m (by omega)]
    rw [e1] at h4
    rw [sp_first s (a + m) (by omega) h2 _ a a (by omega) (by omega) (fun j g1 g2 => by
      have := h3 (j - a) (by omega)
      rw [bt_ext s a s.size (j - a) (Nat.le_refl _) (by omega), show a + (j - a) = j by omega] at this
      exact this)]
    rw [pieces_sp s c (a + m + 1) (by omega) (by omega)]
    rfl
theorem ext_all (s : ByteArray) : s.extract 0 s.size = s := ByteArray.extract_zero_size
theorem pieces_all (s : ByteArray) : pieces (cnt s) s = sp s s.size 0 0 := by
  have h := pieces_sp s (cnt (s.extract 0 s.size)) 0 (Nat.zero_le _) rfl
  rw [ext_all] at h
  exact h
theorem sp_snoc (s t : ByteArray) (m : Nat) (ht : t = s.extract 0 m) (hs : s.size = m + 1) (hb : bt s (m : Int) = 10) : ∀ (n fr i : Nat), n + i = m → fr ≤ i → sp s (n + 1) fr i = sp t n fr i ++ [s.extract s.size s.size]
  | 0, fr, i, hn, hf => by
    obtain rfl : i = m := by omega
    have hz : t.size = i := by rw [ht, ByteArray.size_extract]; omega
    rw [show sp s (0 + 1) fr i = if bt s (i : Int) = 10 then s.extract fr i :: sp s 0 (i + 1) (i + 1) else sp s 0 fr (i + 1) from rfl, if_pos hb, sp, sp, hz, ht, ext_ext s 0 i fr i (by omega), Nat.zero_add, Nat.zero_add, hs]
    rfl
  | n + 1, fr, i, hn, hf => by
    have hz : t.size = m := by rw [ht, ByteArray.size_extract]; omega
    have hbt : bt t (i : Int) = bt s (i : Int) := by rw [ht, bt_ext s 0 m i (by omega) (by omega), Nat.zero_add]
    rw [sp]
    rw [show sp t (n + 1) fr i = if bt t (i : Int) = 10 then t.extract fr i :: sp t n (i + 1) (i + 1) else sp t n fr (i + 1) from rfl, hbt]
    by_cases c : bt s (i : Int) = 10
    · rw [if_pos c, if_pos c, sp_snoc s t m ht hs hb n (i + 1) (i + 1) (by omega) (by omega)]
      rw [show t.extract fr i = s.extract fr i by rw [ht, ext_ext s 0 m fr i (by omega), Nat.zero_add, Nat.zero_add]]
      rfl
    · rw [if_neg c, if_neg c]
      exact sp_snoc s t m ht hs hb n fr (i + 1) (by omega) (by omega)
/-- The lines of a text. -/
def lns (s : ByteArray) : List ByteArray :=
  if s.size = 0 then [] else if bt s ((s.size - 1 : Nat) : Int) = 10 then sp (s.extract 0 (s.size - 1)) (s.size - 1) 0 0 else sp s s.size 0 0
theorem toList_nil (s : ByteArray) : s.toList = ([] : List UInt8) ↔ s.size = 0 := by
  rw [ByteArray.toList_eq, Array.toList_eq_nil_iff]
  constructor
  · intro h; show s.data.size = 0; rw [h]; rfl
  · intro h; exact Array.eq_empty_of_size_eq_zero h
theorem one_list (s : ByteArray) (hs : s.size = 1) : s.toList = [s[0]'(by omega)] := by
  rw [ByteArray.toList_eq]
  have hz : s.data.toList.length = 1 := by rw [Array.length_toList]; exact hs
  match h : s.data.toList, hz with
  | [x], _ =>
    congr 1
    have : s.data.toList[0]'(by omega) = x := by simp [h]
    rw [← this, Array.getElem_toList]; rfl
theorem trim_ten (s : ByteArray) (hs : s.size ≤ 1000000) (h0 : 0 < s.size) : strings_TrimSuffix.f s ⟨#[10]⟩ = some (if bt s ((s.size - 1 : Nat) : Int) = 10 then s.extract 0 (s.size - 1) else s) := by
  unfold strings_TrimSuffix.f stringslite_TrimSuffix.f stringslite_HasSuffix.f
  have hz : (⟨#[10]⟩ : ByteArray).size = 1 := rfl
  have e1 : wrap64 ((s.size : Int) - ((1 : Nat) : Int)) = ((s.size - 1 : Nat) : Int) := by rw [w64 (by omega) (by omega)]; omega
  rw [hz, e1, if_pos (by omega), if_pos (by omega), if_pos (by omega), Int.toNat_natCast]
  simp only [Option.bind_some]
  have hx : (s.extract (s.size - 1) s.size).size = 1 := by rw [ByteArray.size_extract]; omega
  have hb : bt s ((s.size - 1 : Nat) : Int) = (((s.extract (s.size - 1) s.size)[0]'(by omega)).toNat : Int) := by
    rw [ByteArray.getElem_extract, bt_nat s (s.size - 1) (by omega)]
    simp
  have ht : (⟨#[10]⟩ : ByteArray).toList = [10] := by rw [ByteArray.toList_eq]
  rw [one_list _ hx, ht, hb]
  generalize (s.extract (s.size - 1) s.size)[0]'(by omega) = b
  by_cases c : b = 10
  · subst c
    rw [if_pos (by rfl), if_pos (by omega), if_pos (by omega), if_pos (by rfl)]; rfl
  · have : ¬ ((b.toNat : Int) = 10) := fun h => c (UInt8.toNat_inj.1 (by have : b.toNat = 10 := by omega
                                                                         rw [this]; rfl))
    rw [if_neg this, if_neg (by simp [c])]; rfl
theorem split_lns (s : ByteArray) (hs : s.size ≤ 1000000) : lex_Split.f s = some (lns s) := by
  unfold lex_Split.f lns
  by_cases c : s.size = 0
  · rw [if_pos ((toList_nil s).2 c), if_pos c]
  · rw [if_neg (fun h => c ((toList_nil s).1 h)), if_neg c, trim_ten s hs (by omega)]
    simp only [Option.bind_some]
    unfold strings_Split.f
    by_cases c2 : bt s ((s.size - 1 : Nat) : Int) = 10
    · have hz : (s.extract 0 (s.size - 1)).size = s.size - 1 := by rw [ByteArray.size_extract]; omega
      rw [if_pos c2, if_pos c2, if_pos rfl, if_pos (by omega), pieces_all, hz]; rfl
    · rw [if_neg c2, if_neg c2, if_pos rfl, if_pos hs, pieces_all]; rfl
end Go.Proofs.YtonjofjdmlblfaaDoor.P
