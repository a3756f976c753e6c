/- Plain lemmas on the bytes of a string and on 64-bit wrapping: no program in sight. -/
import Derived.Test.YtonjofjdmlblfaaDoorZBWWords
set_option linter.unusedVariables false
set_option linter.unusedSimpArgs false
namespace Go.Proofs.YtonjofjdmlblfaaDoor.Pl
open Go.RowKit Go.Proofs.YtonjofjdmlblfaaDoorW.PrintWords
/-- A string's bytes as numbers. -/
def bs (s : ByteArray) : List Int := s.data.toList.map (fun c => (c.toNat : Int))
theorem bs_length (s : ByteArray) : (bs s).length = s.size := by simp [bs]
theorem bs_range (s : ByteArray) : ∀ c ∈ bs s, 0 ≤ c ∧ c ≤ 255 := by
  intro c hc
  simp only [bs, List.mem_map] at hc
  obtain ⟨u, _, rfl⟩ := hc
  have := u.toNat_lt
  omega
theorem bt_bs (s : ByteArray) (i : Nat) (h : i < s.size) : bt s (i : Int) = (bs s)[i]'(by rw [bs_length]; exact h) := by
  have e : (i : Int).toNat = i := rfl
  unfold bt
  rw [dif_pos (by rw [e]; exact h)]
  simp only [bs, List.getElem_map, Array.getElem_toList]
  rfl
theorem bs_drop (s : ByteArray) (i : Nat) (h : i < s.size) : (bs s).drop i = bt s (i : Int) :: (bs s).drop (i + 1) := by
  rw [bt_bs s i h]
  exact List.drop_eq_getElem_cons (by rw [bs_length]; exact h)
theorem bs_inj {a b : ByteArray} (h : bs a = bs b) : a = b := by
  have : a.data.toList = b.data.toList := by
    simp only [bs] at h
    refine List.map_inj_right (f := fun c : UInt8 => (c.toNat : Int)) ?_ |>.1 h
    intro x y hxy
    exact UInt8.toNat_inj.1 (by omega)
  cases a; cases b
  congr
  exact Array.toList_inj.1 this
theorem bs_strOfNums (l : List Int) (h : ∀ c ∈ l, 0 ≤ c ∧ c ≤ 255) : bs (strOfNums l) = l := by
  simp only [bs, strOfNums, List.map_map]
  conv => rhs; rw [← List.map_id l]
  refine List.map_congr_left ?_
  intro c hc
  have := h c hc
  simp only [Function.comp, UInt8.toNat_ofNat', id]
  omega
end Go.Proofs.YtonjofjdmlblfaaDoor.Pl
