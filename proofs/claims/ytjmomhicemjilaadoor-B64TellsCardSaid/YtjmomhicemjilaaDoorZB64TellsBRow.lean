/- Rows of bytes that a conversion of a string has made: read, written, read as a string again. No program in sight. -/
import Derived.Test.YtjmomhicemjilaaDoorZB64TellsBs
import Derived.Lib.ConvBytes
set_option linter.unusedVariables false
set_option linter.unusedSimpArgs false
namespace Go.Proofs.YtjmomhicemjilaaDoor.Pl
open Go.RowKit Go.Proofs.YtjmomhicemjilaaDoorW.PrintWords
/-- A row of bytes in block g, that may be written. -/
def BRow (w : World) (g n : Nat) (xs : List Int) : Prop :=
  xs.length = n ∧ n ≤ 9223372036854775807 ∧ ∀ j, j < n → w.cell? ⟨g, j, none⟩ = some (.int .u8 (xs.getD j 0)) ∧ w.frozen? ⟨g, j, none⟩ = false
theorem bs_getD (s : ByteArray) (j : Nat) : (bs s).getD j 0 = ((s.data.toList.getD j 0).toNat : Int) := by
  unfold bs
  rw [List.getD_eq_getElem?_getD, List.getD_eq_getElem?_getD, List.getElem?_map]
  cases s.data.toList[j]? <;> rfl
theorem BRow.new (w : World) (e : TypeId) (s : ByteArray) (hs : s.size ≤ 9223372036854775807) : BRow (Lib.bytesWorld w e s) w.heap.size s.size (bs s) := by
  refine ⟨bs_length s, hs, fun j hj => ⟨?_, ?_⟩⟩
  · rw [Lib.bytesWorld_cell w e s j hj, bs_getD]
  · unfold World.frozen?
    rw [Lib.bytesWorld_at_new]
    have h1 : s.size ≤ (Lib.bytesCells w e s).size := by
      unfold Lib.bytesCells
      simp
    simp only
    simp only [Bool.and_eq_false_iff, decide_eq_false_iff_not]
    left
    omega
theorem BRow.string {P : Program} {w : World} {g n : Nat} {xs : List Int} (h : BRow w g n xs) {src dst e : TypeId} (hs : P.underlying src = some (.slice e)) (he : P.underlying e = some (.int .u8)) (hd : P.underlying dst = some .string) (cap : Nat) :
    (convert src dst (.slice (some ⟨g, 0, none⟩) n cap)).run P w = .ok (.string (strOfNums xs)) w := by
  refine run_convert_bytes_arg w src e hs he g 0 n cap xs h.1 (fun i hi => ?_) dst hd
  rw [Nat.zero_add]
  exact (h.2.2 i hi).1
end Go.Proofs.YtjmomhicemjilaaDoor.Pl
