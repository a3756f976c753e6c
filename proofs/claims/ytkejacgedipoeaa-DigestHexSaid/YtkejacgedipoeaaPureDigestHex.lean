/- Digits tell bytes apart, two of each, in order: for every two texts (those of more than 2000 bytes are let out by the statement itself). -/
import Derived.Test.YtkejacgedipoeaaPx52
import Derived.Test.YtkejacgedipoeaaDLive
namespace Go.Proofs.Ytkejacgedipoeaa.Pure
open Go.RowKit Go.Proofs.Ytkejacgedipoeaa.P Go.Proofs.YtkejacgedipoeaaW.PrintWords Go.Proofs.YtkejacgedipoeaaW.PrintLast Go.Proofs.Ytkejacgedipoeaa.Pl

def D (n : Nat) : UInt8 := UInt8.ofNat (dig (n : Int)).toNat
theorem D_fin : ∀ a b : Fin 16, (D a.val < D b.val ↔ a.val < b.val) ∧ (D a.val = D b.val ↔ a.val = b.val) := by decide +kernel
theorem D_lt {a b : Nat} (ha : a < 16) (hb : b < 16) : D a < D b ↔ a < b := (D_fin ⟨a, ha⟩ ⟨b, hb⟩).1
theorem D_eq {a b : Nat} (ha : a < 16) (hb : b < 16) : D a = D b ↔ a = b := (D_fin ⟨a, ha⟩ ⟨b, hb⟩).2
def hu (c : UInt8) : List UInt8 := [D (c.toNat / 16), D (c.toNat % 16)]
def hexU : List UInt8 → List UInt8
  | [] => []
  | c :: l => D (c.toNat / 16) :: D (c.toNat % 16) :: hexU l
theorem hexU_append (a b : List UInt8) : hexU (a ++ b) = hexU a ++ hexU b := by
  induction a with
  | nil => rfl
  | cons c a ih => simp only [List.cons_append, hexU, ih]
theorem hexU_length (a : List UInt8) : (hexU a).length = 2 * a.length := by
  induction a with
  | nil => rfl
  | cons c a ih => simp only [hexU, List.length_cons, ih]; omega
theorem hexTo_list (s : ByteArray) (i : Nat) (hi : i ≤ s.size) : (strOfNums (hexTo s i)).data.toList = hexU (s.data.toList.take i) := by
  induction i with
  | zero => rfl
  | succ i ih =>
    have hl : i < s.data.toList.length := by rw [Array.length_toList]; exact hi
    rw [List.take_succ_eq_append_getElem hl, hexU_append, ← ih (by omega)]
    have hb : bt s (i : Int) = ((s.data.toList[i]'hl).toNat : Int) := by
      rw [bt_bs s i hi]
      simp only [bs, List.getElem_map]
    simp only [hexTo, strOfNums, List.map_append, List.map_cons, List.map_nil, hexU, hb]
    rfl
theorem hex_list (s : ByteArray) : (strOfNums (hexTo s s.size)).data.toList = hexU s.data.toList := by
  rw [hexTo_list s s.size (Nat.le_refl _), List.take_of_length_le (by rw [Array.length_toList]; exact Nat.le_refl _)]
theorem hexU_less : ∀ a b : List UInt8, Op.bytesLess (hexU a) (hexU b) = Op.bytesLess a b
  | [], [] => rfl
  | [], d :: b => rfl
  | c :: a, [] => rfl
  | c :: a, d :: b => by
    have ih := hexU_less a b
    have c1 := c.toNat_lt
    have d1 := d.toNat_lt
    simp only [hexU, Op.bytesLess, ih]
    rw [Bool.eq_iff_iff]
    simp only [Bool.or_eq_true, Bool.and_eq_true, decide_eq_true_eq, beq_iff_eq]
    rw [D_lt (by omega) (by omega), D_lt (by omega) (by omega), D_eq (by omega) (by omega), D_eq (by omega) (by omega), UInt8.lt_iff_toNat_lt, ← UInt8.toNat_inj]
    generalize Op.bytesLess a b = q
    generalize c.toNat = x at *
    generalize d.toNat = y at *
    by_cases hq : q = true
    · simp only [hq, and_true]; omega
    · simp only [hq]
      simp only [Bool.false_eq_true, and_false, or_false]
      omega
theorem hexU_inj : ∀ a b : List UInt8, hexU a = hexU b ↔ a = b
  | [], [] => Iff.rfl
  | [], d :: b => by simp [hexU]
  | c :: a, [] => by simp [hexU]
  | c :: a, d :: b => by
    have ih := hexU_inj a b
    have c1 := c.toNat_lt
    have d1 := d.toNat_lt
    simp only [hexU, List.cons.injEq, ih]
    rw [D_eq (by omega) (by omega), D_eq (by omega) (by omega), ← UInt8.toNat_inj]
    constructor
    · rintro ⟨h1, h2, h3⟩; exact ⟨by omega, h3⟩
    · rintro ⟨h1, h2⟩; exact ⟨by rw [h1], by rw [h1], h2⟩
theorem DigestHex : armadalaw12_DigestHex.Pure := by
  intro a b ha hb
  refine ⟨1, ?_⟩
  have hL := live_bind
  unfold armadalaw12_DigestHex.f
  by_cases h1 : (a.size : Int) > 2000
  · rw [if_pos h1, armadalaw12_DigestHex.j0, if_pos rfl]
    exact hL
  · rw [if_neg h1]
    by_cases h2 : (b.size : Int) > 2000
    · rw [show decide ((b.size : Int) > 2000) = true from decide_eq_true h2, armadalaw12_DigestHex.j0, if_pos rfl]
      exact hL
    · rw [show decide ((b.size : Int) > 2000) = false from decide_eq_false h2, armadalaw12_DigestHex.j0]
      have s1 : ∀ s : ByteArray, (strOfNums (hexTo s s.size)).size = 2 * s.size := fun s => by rw [strOfNums_size, hexTo_length]
      have sab : (a ++ b).size = a.size + b.size := ByteArray.size_append
      have hf : ∀ s : ByteArray, s.size ≤ 70000000000000 → digest_Hex.f s = some (strOfNums (hexTo s s.size)) := fun s h => by unfold digest_Hex.f; rw [if_pos h]
      rw [if_neg (by decide), hf a (by omega), Option.bind_some, hf b (by omega), Option.bind_some]
      rw [if_pos (by rw [s1, w64 (by omega) (by omega)]; omega), if_pos (by omega), hf (a ++ b) (by omega), Option.bind_some]
      rw [if_pos (by rw [s1, s1]; omega)]
      rw [ByteArray.toList_eq, ByteArray.toList_eq, ByteArray.toList_eq, ByteArray.toList_eq, ByteArray.toList_eq, ByteArray.toList_eq]
      have hcat : (strOfNums (hexTo (a ++ b) (a ++ b).size)).data.toList = (strOfNums (hexTo a a.size) ++ strOfNums (hexTo b b.size)).data.toList := by
        rw [hex_list (a ++ b)]
        simp only [ByteArray.data_append, Array.toList_append, hexU_append, hex_list]
      rw [if_pos hcat, hex_list, hex_list]
      have he : ((hexU a.data.toList == hexU b.data.toList) == (a.data.toList == b.data.toList)) = true := by
        have := hexU_inj a.data.toList b.data.toList
        rw [beq_iff_eq, Bool.eq_iff_iff]
        simp only [beq_iff_eq]
        exact this
      have hl : (Op.bytesLess (hexU a.data.toList) (hexU b.data.toList) == Op.bytesLess a.data.toList b.data.toList) = true := by
        rw [hexU_less]; simp
      rw [if_pos he, if_pos hl]
      exact hL
end Go.Proofs.Ytkejacgedipoeaa.Pure
