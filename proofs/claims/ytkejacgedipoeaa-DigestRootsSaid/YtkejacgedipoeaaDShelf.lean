/- The shelf's contracts of strings.Builder at this program: WriteByte, WriteString, String, and a builder's beginning. -/
import Derived.Test.YtkejacgedipoeaaShelf
import Derived.Test.YtkejacgedipoeaaPx0
namespace Go.Proofs.Ytkejacgedipoeaa.P
open Go.RowKit Go.Shelf Go.Proofs.YtkejacgedipoeaaW.PrintWords Go.Proofs.YtkejacgedipoeaaW.PrintLast Go.Proofs.YtkejacgedipoeaaW.PrintMore
set_option linter.unusedVariables false

def r167 : Go.Shelf.Ren := ⟨fun | 167 => 27 | 240 => 38 | 276 => 46 | n => n, Try.lays105_ren.t, fun n => n⟩
theorem lays167 : Go.Proofs.Lays.n167 Try.prog r167 := { Try.lays105 with
  f167 := Try.func27.trans (congrArg some (by kernel_rfl))
  f240 := Try.func38.trans (congrArg some (by kernel_rfl))
  f276 := Try.func46.trans (congrArg some (by kernel_rfl)) }
theorem extra167 : Builder.Extra Try.prog r167 := { Try.Builder_Extra_105 with }
theorem writeByte (B b : Nat) (bs : List Value) (c : Int) (w : World) (h : Lib.IsBuilder 46 5 B b bs w) (hlen : bs.length + 1 ≤ 140737488355328) (hBw : B ≤ w.heap.size) :
    Calls Try.prog 27 #[.pointer (some ⟨b, 0, none⟩), .int .u8 c] w fun e w' => e = .returned .nilIface ∧ Lib.BuilderAt 46 5 B b (.pointer (some ⟨b, 0, none⟩)) (bs ++ [.int .u8 c]) w' ∧ Below B w w' :=
  Any.Builder_WriteByte lays167 extra167 B b bs c w h hlen hBw
theorem writeString (B b : Nat) (bs : List Value) (s : ByteArray) (w : World) (h : Lib.IsBuilder 46 5 B b bs w) (hlen : bs.length + s.size ≤ 140737488355328) (hBw : B ≤ w.heap.size) :
    Calls Try.prog 29 #[.pointer (some ⟨b, 0, none⟩), .string s] w fun e w' => e = .returned (.tuple #[.int .i64 s.size, .nilIface]) ∧ Lib.BuilderAt 46 5 B b (.pointer (some ⟨b, 0, none⟩)) (bs ++ Lib.strCells s) w' ∧ Below B w w' :=
  Any.Builder_WriteString { Try.lays105 with } Try.Builder_Extra_105 B b bs s w h hlen hBw
end Go.Proofs.Ytkejacgedipoeaa.P
