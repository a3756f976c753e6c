/-
  NARROWER THAN 'FOR EVERY INPUT', by the rows' own cells (each row's printed sentence says how): B64Tells: laid · B64Back: laid · B64Apart: laid · B64Cut: laid.
  DERIVED. THE GIVEN ROWS OF THIS SEAT. 4 by the template 'for every input the law returns true; each argument reads behind the call as it read before'; 0 by the template 'total and deterministic' (their statements: YtjmomhicemjilaaDoorTotals.lean).
  GIVEN WITH THE SEED: the statements are not yours to turn. If you find one false, say at which input.
  Laid BY PROGRAM, IN A SANDBOX (cutbox-rows.mjs): the forced cells as the released guide's own fill.sh prints them over the translation b9091c7ba23401e1… (all of the seat's roots in one cut). By AI agents, Wed Nov 11 2026. No macro, syntax, notation, axiom, sorry.
-/
import Derived.Test.YtjmomhicemjilaaDoorChecked
import GoSem.PinnedTables
import GoSem.Claim
import GoSem.ClaimJoined
import GoSem.ClaimMapViews
import Derived.JoinedTies
import Derived.KernelRfl
namespace Go.Proofs.YtjmomhicemjilaaDoor
/- THE CELL 'sum', in the pinned program and in every row, IS THE sha256 OF THE DUMP (.gsa) THAT YtjmomhicemjilaaDoorProg.lean LOADS. Nothing in Lean hashes anything: it is a label: what it is worth is what the hold of that sum in a sandbox is worth. -/
noncomputable def Tryd.pinned : Pinned := { name := "ytjmomhicemjilaadoor", sum := "b9091c7ba23401e1ca7fd4d21fd78beeb487e413ab36dfcbb2c593382ed0a0cc", checked := Tryd.checked }
namespace Rows
def none {H : Type} : Left H := { results := [], args := [] }

/- WHAT THE LISTED PACKAGE-LEVEL VARIABLES READ AS WHEN THE CALL BEGINS. Each datum BY PROGRAM (the guide's laid-datum.mjs) off the statement by which the dump's own 'gosem.cut.vars' lays the variable. In a bare row this is a premise. The card (YtjmomhicemjilaaDoorCards.lean) ties it to the program's text. -/
def laid_unicode_utf8_acceptRanges {H : Type} : DataW H := .agg [.agg [.lit (.int .u8 128), .lit (.int .u8 191)], .agg [.lit (.int .u8 160), .lit (.int .u8 191)], .agg [.lit (.int .u8 128), .lit (.int .u8 159)], .agg [.lit (.int .u8 144), .lit (.int .u8 191)], .agg [.lit (.int .u8 128), .lit (.int .u8 143)], .agg [.lit (.int .u8 0), .lit (.int .u8 0)], .agg [.lit (.int .u8 0), .lit (.int .u8 0)], .agg [.lit (.int .u8 0), .lit (.int .u8 0)], .agg [.lit (.int .u8 0), .lit (.int .u8 0)], .agg [.lit (.int .u8 0), .lit (.int .u8 0)], .agg [.lit (.int .u8 0), .lit (.int .u8 0)], .agg [.lit (.int .u8 0), .lit (.int .u8 0)], .agg [.lit (.int .u8 0), .lit (.int .u8 0)], .agg [.lit (.int .u8 0), .lit (.int .u8 0)], .agg [.lit (.int .u8 0), .lit (.int .u8 0)], .agg [.lit (.int .u8 0), .lit (.int .u8 0)]]
/-- One of Go's own tables, pinned by name: the form's constant. -/
def laid_unicode_utf8_first : DataW Unit := Go.Pinned.utf8First

/-- 'armadalaw13.B64Tells': WHATEVER THE INPUT: true; the input reads as it did. -/
def b64TellsSpec : ChangeSpec := { name := "b64Tells", fn := fun _ => fun
  | [d1, d2, d3] => { results := [.lit (.bool true)], args := [d1, d2, d3] }
  | _ => none }
def b64TellsRow : OpenClaim := { program := "ytjmomhicemjilaadoor", sum := "b9091c7ba23401e1ca7fd4d21fd78beeb487e413ab36dfcbb2c593382ed0a0cc", func := "armada/armadalaw13.B64Tells", spec := "b64Tells", inPlace := ["internal/bytealg.IndexByteString", "internal/bytealg.IndexString", "internal/abi.NoEscape"], named := ["unicode/utf8.first", "unicode/utf8.acceptRanges", "internal/bytealg.MaxLen"], apart := false, laid := [("unicode/utf8.acceptRanges", laid_unicode_utf8_acceptRanges), ("unicode/utf8.first", laid_unicode_utf8_first)] }
def B64TellsSaid : Prop := b64TellsRow.holds Tryd.pinned (OpenSpec.ofChange b64TellsSpec)

/-- ITS FALSE NEIGHBOUR: 'it returns false'. Refute it at one input. -/
def b64TellsWrong : ChangeSpec := { name := "b64Tells", fn := fun _ => fun
  | [d1, d2, d3] => { results := [.lit (.bool false)], args := [d1, d2, d3] }
  | _ => none }
def B64TellsWrongFalsely : Prop := b64TellsRow.holds Tryd.pinned (OpenSpec.ofChange b64TellsWrong)

/-- 'armadalaw13.B64Back': WHATEVER THE INPUT: true; the input reads as it did. -/
def b64BackSpec : ChangeSpec := { name := "b64Back", fn := fun _ => fun
  | [d1, d2] => { results := [.lit (.bool true)], args := [d1, d2] }
  | _ => none }
def b64BackRow : OpenClaim := { program := "ytjmomhicemjilaadoor", sum := "b9091c7ba23401e1ca7fd4d21fd78beeb487e413ab36dfcbb2c593382ed0a0cc", func := "armada/armadalaw13.B64Back", spec := "b64Back", inPlace := ["internal/bytealg.IndexByteString", "internal/bytealg.IndexString", "internal/abi.NoEscape"], named := ["unicode/utf8.first", "unicode/utf8.acceptRanges", "internal/bytealg.MaxLen"], apart := false, laid := [("unicode/utf8.acceptRanges", laid_unicode_utf8_acceptRanges), ("unicode/utf8.first", laid_unicode_utf8_first)] }
def B64BackSaid : Prop := b64BackRow.holds Tryd.pinned (OpenSpec.ofChange b64BackSpec)

/-- ITS FALSE NEIGHBOUR: 'it returns false'. Refute it at one input. -/
def b64BackWrong : ChangeSpec := { name := "b64Back", fn := fun _ => fun
  | [d1, d2] => { results := [.lit (.bool false)], args := [d1, d2] }
  | _ => none }
def B64BackWrongFalsely : Prop := b64BackRow.holds Tryd.pinned (OpenSpec.ofChange b64BackWrong)

/-- 'armadalaw13.B64Apart': WHATEVER THE INPUT: true; the input reads as it did. -/
def b64ApartSpec : ChangeSpec := { name := "b64Apart", fn := fun _ => fun
  | [d1, d2] => { results := [.lit (.bool true)], args := [d1, d2] }
  | _ => none }
def b64ApartRow : OpenClaim := { program := "ytjmomhicemjilaadoor", sum := "b9091c7ba23401e1ca7fd4d21fd78beeb487e413ab36dfcbb2c593382ed0a0cc", func := "armada/armadalaw13.B64Apart", spec := "b64Apart", inPlace := ["internal/bytealg.IndexByteString", "internal/bytealg.IndexString", "internal/abi.NoEscape"], named := ["unicode/utf8.first", "unicode/utf8.acceptRanges", "internal/bytealg.MaxLen"], apart := false, laid := [("unicode/utf8.acceptRanges", laid_unicode_utf8_acceptRanges), ("unicode/utf8.first", laid_unicode_utf8_first)] }
def B64ApartSaid : Prop := b64ApartRow.holds Tryd.pinned (OpenSpec.ofChange b64ApartSpec)

/-- ITS FALSE NEIGHBOUR: 'it returns false'. Refute it at one input. -/
def b64ApartWrong : ChangeSpec := { name := "b64Apart", fn := fun _ => fun
  | [d1, d2] => { results := [.lit (.bool false)], args := [d1, d2] }
  | _ => none }
def B64ApartWrongFalsely : Prop := b64ApartRow.holds Tryd.pinned (OpenSpec.ofChange b64ApartWrong)

/-- 'armadalaw13.B64Cut': WHATEVER THE INPUT: true; the input reads as it did. -/
def b64CutSpec : ChangeSpec := { name := "b64Cut", fn := fun _ => fun
  | [d1, d2] => { results := [.lit (.bool true)], args := [d1, d2] }
  | _ => none }
def b64CutRow : OpenClaim := { program := "ytjmomhicemjilaadoor", sum := "b9091c7ba23401e1ca7fd4d21fd78beeb487e413ab36dfcbb2c593382ed0a0cc", func := "armada/armadalaw13.B64Cut", spec := "b64Cut", inPlace := ["internal/bytealg.IndexByteString", "internal/bytealg.IndexString", "internal/abi.NoEscape"], named := ["unicode/utf8.first", "unicode/utf8.acceptRanges", "internal/bytealg.MaxLen"], apart := false, laid := [("unicode/utf8.acceptRanges", laid_unicode_utf8_acceptRanges), ("unicode/utf8.first", laid_unicode_utf8_first)] }
def B64CutSaid : Prop := b64CutRow.holds Tryd.pinned (OpenSpec.ofChange b64CutSpec)

/-- ITS FALSE NEIGHBOUR: 'it returns false'. Refute it at one input. -/
def b64CutWrong : ChangeSpec := { name := "b64Cut", fn := fun _ => fun
  | [d1, d2] => { results := [.lit (.bool false)], args := [d1, d2] }
  | _ => none }
def B64CutWrongFalsely : Prop := b64CutRow.holds Tryd.pinned (OpenSpec.ofChange b64CutWrong)

/- THE SECOND FORM. 'bulk': how many values and letters a reading holds, each counted each time it is reached (what is shared counts as often as it is met; a slice's spare places count too). A statement '..UptoSaid' is the law's where the arguments, and the package variables that the reading takes, are together of bulk at most 1048576: NARROWER than '..Said'. Prove '..Said' where nothing that the law and all that it calls make is longer than what came in: it says more and counts as full. Else prove '..UptoSaid'. A law counts once. -/
mutual
def uptoBulk {H : Type} : DataW H → Nat
  | .lit (.string bytes) => bytes.length + 1
  | .lit _ => 1
  | .nil => 1
  | .ptr d => uptoBulk d + 1
  | .slice elems spare => uptoBulkAll elems + uptoBulkAll spare + 1
  | .agg parts => uptoBulkAll parts + 1
  | .iface _ d => uptoBulk d + 1
  | .map entries => uptoBulkEntries entries + 1
  | .held _ => 1
def uptoBulkAll {H : Type} : List (DataW H) → Nat
  | [] => 0
  | d :: r => uptoBulk d + uptoBulkAll r
def uptoBulkEntries {H : Type} : List (Lit × DataW H) → Nat
  | [] => 0
  | x :: r => uptoBulkEntry x + uptoBulkEntries r
def uptoBulkEntry {H : Type} : Lit × DataW H → Nat
  | (.string bytes, d) => bytes.length + uptoBulk d + 1
  | (_, d) => uptoBulk d + 1
 end
def uptoSmall : (H : Type) → List (DataW H) → Bool := fun _ ds => decide (uptoBulkAll ds ≤ 1048576)
def OpenSpec.upto (s : _root_.Go.ChangeSpec) : _root_.Go.OpenSpec := { _root_.Go.OpenSpec.ofChange s with cond := some uptoSmall }

/-- 'armadalaw13.B64Tells', WHERE WHAT IT READS IS OF BULK AT MOST 1048576: true; the input reads as it did. -/
def b64TellsUptoRow : OpenClaim := { program := "ytjmomhicemjilaadoor", sum := "b9091c7ba23401e1ca7fd4d21fd78beeb487e413ab36dfcbb2c593382ed0a0cc", func := "armada/armadalaw13.B64Tells", spec := "b64Tells", inPlace := ["internal/bytealg.IndexByteString", "internal/bytealg.IndexString", "internal/abi.NoEscape"], named := ["unicode/utf8.first", "unicode/utf8.acceptRanges", "internal/bytealg.MaxLen"], apart := false, laid := [("unicode/utf8.acceptRanges", laid_unicode_utf8_acceptRanges), ("unicode/utf8.first", laid_unicode_utf8_first)], narrowed := true }
def B64TellsUptoSaid : Prop := b64TellsUptoRow.holds Tryd.pinned (OpenSpec.upto b64TellsSpec)

/-- 'armadalaw13.B64Back', WHERE WHAT IT READS IS OF BULK AT MOST 1048576: true; the input reads as it did. -/
def b64BackUptoRow : OpenClaim := { program := "ytjmomhicemjilaadoor", sum := "b9091c7ba23401e1ca7fd4d21fd78beeb487e413ab36dfcbb2c593382ed0a0cc", func := "armada/armadalaw13.B64Back", spec := "b64Back", inPlace := ["internal/bytealg.IndexByteString", "internal/bytealg.IndexString", "internal/abi.NoEscape"], named := ["unicode/utf8.first", "unicode/utf8.acceptRanges", "internal/bytealg.MaxLen"], apart := false, laid := [("unicode/utf8.acceptRanges", laid_unicode_utf8_acceptRanges), ("unicode/utf8.first", laid_unicode_utf8_first)], narrowed := true }
def B64BackUptoSaid : Prop := b64BackUptoRow.holds Tryd.pinned (OpenSpec.upto b64BackSpec)

/-- 'armadalaw13.B64Apart', WHERE WHAT IT READS IS OF BULK AT MOST 1048576: true; the input reads as it did. -/
def b64ApartUptoRow : OpenClaim := { program := "ytjmomhicemjilaadoor", sum := "b9091c7ba23401e1ca7fd4d21fd78beeb487e413ab36dfcbb2c593382ed0a0cc", func := "armada/armadalaw13.B64Apart", spec := "b64Apart", inPlace := ["internal/bytealg.IndexByteString", "internal/bytealg.IndexString", "internal/abi.NoEscape"], named := ["unicode/utf8.first", "unicode/utf8.acceptRanges", "internal/bytealg.MaxLen"], apart := false, laid := [("unicode/utf8.acceptRanges", laid_unicode_utf8_acceptRanges), ("unicode/utf8.first", laid_unicode_utf8_first)], narrowed := true }
def B64ApartUptoSaid : Prop := b64ApartUptoRow.holds Tryd.pinned (OpenSpec.upto b64ApartSpec)

/-- 'armadalaw13.B64Cut', WHERE WHAT IT READS IS OF BULK AT MOST 1048576: true; the input reads as it did. -/
def b64CutUptoRow : OpenClaim := { program := "ytjmomhicemjilaadoor", sum := "b9091c7ba23401e1ca7fd4d21fd78beeb487e413ab36dfcbb2c593382ed0a0cc", func := "armada/armadalaw13.B64Cut", spec := "b64Cut", inPlace := ["internal/bytealg.IndexByteString", "internal/bytealg.IndexString", "internal/abi.NoEscape"], named := ["unicode/utf8.first", "unicode/utf8.acceptRanges", "internal/bytealg.MaxLen"], apart := false, laid := [("unicode/utf8.acceptRanges", laid_unicode_utf8_acceptRanges), ("unicode/utf8.first", laid_unicode_utf8_first)], narrowed := true }
def B64CutUptoSaid : Prop := b64CutUptoRow.holds Tryd.pinned (OpenSpec.upto b64CutSpec)

end Rows
end Go.Proofs.YtjmomhicemjilaaDoor
