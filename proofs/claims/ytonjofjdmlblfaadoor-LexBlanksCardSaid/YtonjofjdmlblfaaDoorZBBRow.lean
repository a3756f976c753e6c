/- Rows of bytes that a conversion of a string has made: read, written, read as a string again. No program in sight. -/
import Derived.Test.YtonjofjdmlblfaaDoorZBBs
import Derived.Lib.ConvBytes
set_option linter.unusedVariables false
set_option linter.unusedSimpArgs false
namespace Go.Proofs.YtonjofjdmlblfaaDoor.Pl
open Go.RowKit Go.Proofs.YtonjofjdmlblfaaDoorW.PrintWords
/-- A row of bytes in block g, that may be written. -/
def BRow (w : World) (g n : Nat) (xs : List Int) : Prop :=
  xs.length = n ∧ n ≤ 9223372036854775807 ∧ ∀ j, j < n → w.cell? ⟨g, j, none⟩ = some (.int .u8 (xs.getD j 0)) ∧ w.frozen? ⟨g, j, none⟩ = false
theorem bs_getD (s : ByteArray) (j : Nat) : (bs s).getD j 0 = ((s.data.toList.getD j 0).toNat : Int) := by
  unfold bs
  rw [List.getD_eq_getElem?_getD, List.getD_eq_getElem?_getD, List.getElem?_map]
  cases s.data.toList[j]? <;> rfl
theorem BRow.new (w : World) (e : TypeId) (s : ByteArray) (hs : s.size ≤ 9223372036854775807) : BRow (Lib.bytesWorld w e s) w.heap.size s.size (bs s) := by
  refine ⟨bs_length s, hs, fun j hj => ⟨?_, ?_⟩⟩
  · rw [Lib.bytesWorld_cell w e s j hj, bs_getD]
  · unfold World.frozen?
    rw [Lib.bytesWorld_at_new]
    have h1 : s.size ≤ (Lib.bytesCells w e s).size := by
      unfold Lib.bytesCells
      simp
    simp only
    simp only [Bool.and_eq_false_iff, decide_eq_false_iff_not]
    left
    omega
theorem BRow.below {w w1 : World} {g n B : Nat} {xs : List Int} (h : BRow w g n xs) (hb : Below B w w1) (hg : g < B) : BRow w1 g n xs :=
  ⟨h.1, h.2.1, fun j hj => ⟨(hb.cell (p := ⟨g, j, none⟩) hg).trans (h.2.2 j hj).1, (hb.frozen (p := ⟨g, j, none⟩) hg).trans (h.2.2 j hj).2⟩⟩
theorem BRow.drewN {w : World} {g n : Nat} {xs : List Int} (h : BRow w g n xs) (m : Nat) : BRow (w.drewN m) g n xs := h
theorem BRow.set {w : World} {g n : Nat} {xs : List Int} (h : BRow w g n xs) (i : Nat) (v : Int) : BRow (w.setCell ⟨g, i, none⟩ (.int .u8 v)) g n (xs.set i v) := by
  refine ⟨by rw [List.length_set]; exact h.1, h.2.1, fun j hj => ?_⟩
  have hc := h.2.2 j hj
  constructor
  · by_cases e : i = j
    · subst e
      rw [World.cell?_setCell_same w _ _ hc.1, List.getD_eq_getElem?_getD, List.getElem?_set_self (by rw [h.1]; exact hj)]
      rfl
    · rw [World.cell?_setCell_other w _ _ _ (by intro hh; exact e (by injection hh)), hc.1, List.getD_eq_getElem?_getD, List.getD_eq_getElem?_getD, List.getElem?_set_ne e]
  · rw [← hc.2]; simp [World.frozen?_setCell]
theorem BRow.string {P : Program} {w : World} {g n : Nat} {xs : List Int} (h : BRow w g n xs) {src dst e : TypeId} (hs : P.underlying src = some (.slice e)) (he : P.underlying e = some (.int .u8)) (hd : P.underlying dst = some .string) (cap : Nat) :
    (convert src dst (.slice (some ⟨g, 0, none⟩) n cap)).run P w = .ok (.string (strOfNums xs)) w := by
  refine run_convert_bytes_arg w src e hs he g 0 n cap xs h.1 (fun i hi => ?_) dst hd
  rw [Nat.zero_add]
  exact (h.2.2 i hi).1
end Go.Proofs.YtonjofjdmlblfaaDoor.Pl
