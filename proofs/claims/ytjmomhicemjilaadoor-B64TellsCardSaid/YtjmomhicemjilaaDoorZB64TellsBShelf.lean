/- The shelf's contracts of strings.Builder at this program: WriteString, String, and a builder's beginning. -/
import Derived.Test.YtjmomhicemjilaaDoorZB64TellsShelf
import Derived.Test.YtjmomhicemjilaaDoorZB64TellsM0
import Derived.Shelf.Strings.BuilderK
namespace Go.Proofs.YtjmomhicemjilaaDoor.P
open Go.RowKit Go.Shelf Go.Proofs.YtjmomhicemjilaaDoorW.PrintWords Go.Proofs.YtjmomhicemjilaaDoorW.PrintLast Go.Proofs.YtjmomhicemjilaaDoorW.PrintMore
set_option linter.unusedVariables false
def r166 : Go.Shelf.Ren := ⟨fun | 166 => 17 | 240 => 25 | 276 => 31 | n => n, fun | 37 => 30 | 70 => 36 | 72 => 38 | 75 => 40 | 80 => 43 | 164 => 59 | n => n, fun n => n⟩
theorem lays166 : Go.Proofs.Lays.n166 Tryd.prog r166 := {
  mixed := by kernel_rfl
  f166 := Tryd.func17.trans (congrArg some (by kernel_rfl))
  f240 := Tryd.func25.trans (congrArg some (by kernel_rfl))
  f276 := Tryd.func31.trans (congrArg some (by kernel_rfl))
  t0 := Tryd.underlying0
  a0 := Tryd.isAgg0
  z0 := Tryd.sizeOf0
  v0 := Tryd.zeroValue0
  t3 := Tryd.underlying3
  a3 := Tryd.isAgg3
  z3 := Tryd.sizeOf3
  v3 := Tryd.zeroValue3
  t4 := Tryd.underlying4
  a4 := Tryd.isAgg4
  z4 := Tryd.sizeOf4
  v4 := Tryd.zeroValue4
  t9 := Tryd.underlying9
  a9 := Tryd.isAgg9
  z9 := Tryd.sizeOf9
  v9 := Tryd.zeroValue9
  t20 := Tryd.underlying20
  a20 := Tryd.isAgg20
  z20 := Tryd.sizeOf20
  v20 := Tryd.zeroValue20
  t37 := Tryd.underlying30
  a37 := Tryd.isAgg30
  z37 := Tryd.sizeOf30
  v37 := Tryd.zeroValue30
  t70 := Tryd.underlying36
  a70 := Tryd.isAgg36
  z70 := Tryd.sizeOf36
  v70 := Tryd.zeroValue36
  t72 := Tryd.underlying38
  a72 := Tryd.isAgg38
  z72 := Tryd.sizeOf38
  v72 := Tryd.zeroValue38
  t75 := Tryd.underlying40
  a75 := Tryd.isAgg40
  z75 := Tryd.sizeOf40
  v75 := Tryd.zeroValue40
  t164 := Tryd.underlying59
  a164 := Tryd.isAgg59
  z164 := Tryd.sizeOf59
  v164 := Tryd.zeroValue59 }
theorem extra166 : Builder.Extra Tryd.prog r166 := {
  sizeBuilder := by kernel_rfl
  liesBuilder := by kernel_rfl
  t5 := Tryd.underlying5
  a5 := Tryd.isAgg5
  z5 := Tryd.sizeOf5
  v5 := Tryd.zeroValue5
  infoByte := by kernel_rfl
  cellsByte := by kernel_rfl
  sizeByte := by kernel_rfl
  neB5 := by decide }
theorem writeString (B b : Nat) (bs : List Value) (s : ByteArray) (w : World) (h : Lib.IsBuilder 38 5 B b bs w) (hlen : bs.length + s.size ≤ 140737488355328) (hBw : B ≤ w.heap.size) :
    Calls Tryd.prog 17 #[.pointer (some ⟨b, 0, none⟩), .string s] w fun e w' => e = .returned (.tuple #[.int .i64 s.size, .nilIface]) ∧ Lib.BuilderAt 38 5 B b (.pointer (some ⟨b, 0, none⟩)) (bs ++ Lib.strCells s) w' ∧ Below B w w' :=
  Any.Builder_WriteString lays166 extra166 B b bs s w h hlen hBw
theorem cells_append (a b : ByteArray) : Lib.strCells (a ++ b) = Lib.strCells a ++ Lib.strCells b := by
  simp only [Lib.strCells, ByteArray.data_append, Array.toList_append, List.map_append]
/-- A builder that holds this text, in a block of its own. -/
def BldS (w0 : World) (g : Nat) (t : ByteArray) (w : World) : Prop := Lib.IsBuilder 38 5 w0.heap.size g (Lib.strCells t) w ∧ Below w0.heap.size w0 w
theorem BldS.step {w0 w w' : World} {g : Nat} {t : ByteArray} (h : BldS w0 g t w) (hb : Below w.heap.size w w') : BldS w0 g t w' := by
  refine ⟨?_, h.2.trans (hb.mono h.2.size)⟩
  have go : ∀ p, Lib.BuilderAt 38 5 w0.heap.size g p (Lib.strCells t) w → Lib.BuilderAt 38 5 w0.heap.size g p (Lib.strCells t) w' := fun p ⟨hB, v, hv, hown, hne⟩ =>
    ⟨hB, v, (hb.block g (Array.getElem?_eq_some_iff.1 hv).1).trans hv, pw_own_below hown hb, hne⟩
  exact h.1.elim (fun x => Or.inl (go _ x)) (fun x => Or.inr (go _ x))
theorem BldS.text {w0 w : World} {g : Nat} {t : ByteArray} (h : BldS w0 g t w) (s : ByteArray) (hl : t.size + s.size ≤ 140737488355328) :
    Calls Tryd.prog 17 #[.pointer (some ⟨g, 0, none⟩), .string s] w fun e w' => (∃ n : Int, e = .returned (.tuple #[.int .i64 n, .nilIface])) ∧ Aside0 (BldS w0 g (t ++ s) w') := by
  refine (writeString w0.heap.size g _ s w h.1 (by rw [Lib.strCells_length]; exact hl) h.2.size).mono ?_
  rintro e w' ⟨rfl, h1, h2⟩
  exact ⟨⟨_, rfl⟩, ⟨⟨by rw [cells_append]; exact Or.inr h1, h.2.trans h2⟩⟩⟩
theorem BldS.string {w0 w : World} {g : Nat} {t : ByteArray} (h : BldS w0 g t w) :
    Calls Tryd.prog 19 #[.pointer (some ⟨g, 0, none⟩)] w fun e w' => e = .returned (.string t) ∧ Aside0 (Below w0.heap.size w0 w') := by
  have h1 := h.1
  rw [Lib.strCells_eq] at h1
  refine (Tryd.Builder_String_any w0.heap.size g _ w h1 h.2.size).mono ?_
  rintro e w' ⟨rfl, h2⟩
  exact ⟨by rw [Array.toArray_toList], ⟨h.2.trans h2⟩⟩
end Go.Proofs.YtjmomhicemjilaaDoor.P
