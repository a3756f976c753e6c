/-
  NARROWER THAN 'FOR EVERY INPUT', by the rows' own cells (each row's printed sentence says how): FilesTells: laid · FilesChange: laid · FilesCodes: laid · FilesBack: laid · FilesOnce: laid · FilesParts: laid · FilesLeast: laid.
  DERIVED. THE GIVEN ROWS OF THIS SEAT. 7 by the template 'for every input the law returns true; each argument reads behind the call as it read before'; 0 by the template 'total and deterministic' (their statements: YtnhhbmekjoanbaaDoorTotals.lean).
  GIVEN WITH THE SEED: the statements are not yours to turn. If you find one false, say at which input.
  Laid BY PROGRAM, IN A SANDBOX (cutbox-rows.mjs): the forced cells as the released guide's own fill.sh prints them over the translation 998b47d541617aba… (all of the seat's roots in one cut). By AI agents, Wed Nov 11 2026. No macro, syntax, notation, axiom, sorry.
-/
import Derived.Test.YtnhhbmekjoanbaaDoorChecked
import GoSem.PinnedTables
import GoSem.Claim
import GoSem.ClaimJoined
import GoSem.ClaimMapViews
import Derived.JoinedTies
import Derived.KernelRfl
namespace Go.Proofs.YtnhhbmekjoanbaaDoor
/- THE CELL 'sum', in the pinned program and in every row, IS THE sha256 OF THE DUMP (.gsa) THAT YtnhhbmekjoanbaaDoorProg.lean LOADS. Nothing in Lean hashes anything: it is a label: what it is worth is what the hold of that sum in a sandbox is worth. -/
noncomputable def Tryd.pinned : Pinned := { name := "ytnhhbmekjoanbaadoor", sum := "998b47d541617aba22e7176dbbcafcdb081f69a5ee7152c1b5268c67e7eb65d0", checked := Tryd.checked }
namespace Rows
def none {H : Type} : Left H := { results := [], args := [] }

/- WHAT THE LISTED PACKAGE-LEVEL VARIABLES READ AS WHEN THE CALL BEGINS. Each datum BY PROGRAM (the guide's laid-datum.mjs) off the statement by which the dump's own 'gosem.cut.vars' lays the variable. In a bare row this is a premise. The card (YtnhhbmekjoanbaaDoorCards.lean) ties it to the program's text. -/
def laid_unicode_utf8_acceptRanges {H : Type} : DataW H := .agg [.agg [.lit (.int .u8 128), .lit (.int .u8 191)], .agg [.lit (.int .u8 160), .lit (.int .u8 191)], .agg [.lit (.int .u8 128), .lit (.int .u8 159)], .agg [.lit (.int .u8 144), .lit (.int .u8 191)], .agg [.lit (.int .u8 128), .lit (.int .u8 143)], .agg [.lit (.int .u8 0), .lit (.int .u8 0)], .agg [.lit (.int .u8 0), .lit (.int .u8 0)], .agg [.lit (.int .u8 0), .lit (.int .u8 0)], .agg [.lit (.int .u8 0), .lit (.int .u8 0)], .agg [.lit (.int .u8 0), .lit (.int .u8 0)], .agg [.lit (.int .u8 0), .lit (.int .u8 0)], .agg [.lit (.int .u8 0), .lit (.int .u8 0)], .agg [.lit (.int .u8 0), .lit (.int .u8 0)], .agg [.lit (.int .u8 0), .lit (.int .u8 0)], .agg [.lit (.int .u8 0), .lit (.int .u8 0)], .agg [.lit (.int .u8 0), .lit (.int .u8 0)]]
/-- One of Go's own tables, pinned by name: the form's constant. -/
def laid_unicode_utf8_first : DataW Unit := Go.Pinned.utf8First

/-- 'armadalaw05.FilesTells': WHATEVER THE INPUT: true; the input reads as it did. -/
def filesTellsSpec : ChangeSpec := { name := "filesTells", fn := fun _ => fun
  | [d1, d2, d3] => { results := [.lit (.bool true)], args := [d1, d2, d3] }
  | _ => none }
def filesTellsRow : OpenClaim := { program := "ytnhhbmekjoanbaadoor", sum := "998b47d541617aba22e7176dbbcafcdb081f69a5ee7152c1b5268c67e7eb65d0", func := "armada/armadalaw05.FilesTells", spec := "filesTells", inPlace := ["internal/bytealg.IndexByteString", "internal/bytealg.IndexString", "internal/bytealg.abigen_runtime_cmpstring", "slices.overlaps[armada/api.File]", "internal/abi.NoEscape"], unfollowed := true, recurses := true, named := ["unicode/utf8.first", "unicode/utf8.acceptRanges", "internal/bytealg.MaxLen"], apart := false, laid := [("unicode/utf8.acceptRanges", laid_unicode_utf8_acceptRanges), ("unicode/utf8.first", laid_unicode_utf8_first)] }
def FilesTellsSaid : Prop := filesTellsRow.holds Tryd.pinned (OpenSpec.ofChange filesTellsSpec)

/-- ITS FALSE NEIGHBOUR: 'it returns false'. Refute it at one input. -/
def filesTellsWrong : ChangeSpec := { name := "filesTells", fn := fun _ => fun
  | [d1, d2, d3] => { results := [.lit (.bool false)], args := [d1, d2, d3] }
  | _ => none }
def FilesTellsWrongFalsely : Prop := filesTellsRow.holds Tryd.pinned (OpenSpec.ofChange filesTellsWrong)

/-- 'armadalaw05.FilesChange': WHATEVER THE INPUT: true; the input reads as it did. -/
def filesChangeSpec : ChangeSpec := { name := "filesChange", fn := fun _ => fun
  | [d1, d2, d3] => { results := [.lit (.bool true)], args := [d1, d2, d3] }
  | _ => none }
def filesChangeRow : OpenClaim := { program := "ytnhhbmekjoanbaadoor", sum := "998b47d541617aba22e7176dbbcafcdb081f69a5ee7152c1b5268c67e7eb65d0", func := "armada/armadalaw05.FilesChange", spec := "filesChange", inPlace := ["internal/bytealg.IndexByteString", "internal/bytealg.IndexString", "internal/bytealg.abigen_runtime_cmpstring", "slices.overlaps[armada/api.File]", "internal/abi.NoEscape"], unfollowed := true, recurses := true, named := ["unicode/utf8.first", "unicode/utf8.acceptRanges", "internal/bytealg.MaxLen"], apart := false, laid := [("unicode/utf8.acceptRanges", laid_unicode_utf8_acceptRanges), ("unicode/utf8.first", laid_unicode_utf8_first)] }
def FilesChangeSaid : Prop := filesChangeRow.holds Tryd.pinned (OpenSpec.ofChange filesChangeSpec)

/-- ITS FALSE NEIGHBOUR: 'it returns false'. Refute it at one input. -/
def filesChangeWrong : ChangeSpec := { name := "filesChange", fn := fun _ => fun
  | [d1, d2, d3] => { results := [.lit (.bool false)], args := [d1, d2, d3] }
  | _ => none }
def FilesChangeWrongFalsely : Prop := filesChangeRow.holds Tryd.pinned (OpenSpec.ofChange filesChangeWrong)

/-- 'armadalaw05.FilesCodes': WHATEVER THE INPUT: true; the input reads as it did. -/
def filesCodesSpec : ChangeSpec := { name := "filesCodes", fn := fun _ => fun
  | [d1, d2] => { results := [.lit (.bool true)], args := [d1, d2] }
  | _ => none }
def filesCodesRow : OpenClaim := { program := "ytnhhbmekjoanbaadoor", sum := "998b47d541617aba22e7176dbbcafcdb081f69a5ee7152c1b5268c67e7eb65d0", func := "armada/armadalaw05.FilesCodes", spec := "filesCodes", inPlace := ["internal/bytealg.IndexByteString", "internal/bytealg.IndexString", "internal/bytealg.abigen_runtime_cmpstring", "slices.overlaps[armada/api.File]", "internal/abi.NoEscape"], unfollowed := true, recurses := true, named := ["unicode/utf8.first", "unicode/utf8.acceptRanges", "internal/bytealg.MaxLen"], apart := false, laid := [("unicode/utf8.acceptRanges", laid_unicode_utf8_acceptRanges), ("unicode/utf8.first", laid_unicode_utf8_first)] }
def FilesCodesSaid : Prop := filesCodesRow.holds Tryd.pinned (OpenSpec.ofChange filesCodesSpec)

/-- ITS FALSE NEIGHBOUR: 'it returns false'. Refute it at one input. -/
def filesCodesWrong : ChangeSpec := { name := "filesCodes", fn := fun _ => fun
  | [d1, d2] => { results := [.lit (.bool false)], args := [d1, d2] }
  | _ => none }
def FilesCodesWrongFalsely : Prop := filesCodesRow.holds Tryd.pinned (OpenSpec.ofChange filesCodesWrong)

/-- 'armadalaw05.FilesBack': WHATEVER THE INPUT: true; the input reads as it did. -/
def filesBackSpec : ChangeSpec := { name := "filesBack", fn := fun _ => fun
  | [d1, d2, d3] => { results := [.lit (.bool true)], args := [d1, d2, d3] }
  | _ => none }
def filesBackRow : OpenClaim := { program := "ytnhhbmekjoanbaadoor", sum := "998b47d541617aba22e7176dbbcafcdb081f69a5ee7152c1b5268c67e7eb65d0", func := "armada/armadalaw05.FilesBack", spec := "filesBack", inPlace := ["internal/bytealg.IndexByteString", "internal/bytealg.IndexString", "internal/bytealg.abigen_runtime_cmpstring", "slices.overlaps[armada/api.File]", "internal/abi.NoEscape"], unfollowed := true, recurses := true, named := ["unicode/utf8.first", "unicode/utf8.acceptRanges", "internal/bytealg.MaxLen"], apart := false, laid := [("unicode/utf8.acceptRanges", laid_unicode_utf8_acceptRanges), ("unicode/utf8.first", laid_unicode_utf8_first)] }
def FilesBackSaid : Prop := filesBackRow.holds Tryd.pinned (OpenSpec.ofChange filesBackSpec)

/-- ITS FALSE NEIGHBOUR: 'it returns false'. Refute it at one input. -/
def filesBackWrong : ChangeSpec := { name := "filesBack", fn := fun _ => fun
  | [d1, d2, d3] => { results := [.lit (.bool false)], args := [d1, d2, d3] }
  | _ => none }
def FilesBackWrongFalsely : Prop := filesBackRow.holds Tryd.pinned (OpenSpec.ofChange filesBackWrong)

/-- 'armadalaw05.FilesOnce': WHATEVER THE INPUT: true; the input reads as it did. -/
def filesOnceSpec : ChangeSpec := { name := "filesOnce", fn := fun _ => fun
  | [d1, d2, d3] => { results := [.lit (.bool true)], args := [d1, d2, d3] }
  | _ => none }
def filesOnceRow : OpenClaim := { program := "ytnhhbmekjoanbaadoor", sum := "998b47d541617aba22e7176dbbcafcdb081f69a5ee7152c1b5268c67e7eb65d0", func := "armada/armadalaw05.FilesOnce", spec := "filesOnce", inPlace := ["internal/bytealg.IndexByteString", "internal/bytealg.IndexString", "internal/bytealg.abigen_runtime_cmpstring", "slices.overlaps[armada/api.File]", "internal/abi.NoEscape"], unfollowed := true, recurses := true, named := ["unicode/utf8.first", "unicode/utf8.acceptRanges", "internal/bytealg.MaxLen"], apart := false, laid := [("unicode/utf8.acceptRanges", laid_unicode_utf8_acceptRanges), ("unicode/utf8.first", laid_unicode_utf8_first)] }
def FilesOnceSaid : Prop := filesOnceRow.holds Tryd.pinned (OpenSpec.ofChange filesOnceSpec)

/-- ITS FALSE NEIGHBOUR: 'it returns false'. Refute it at one input. -/
def filesOnceWrong : ChangeSpec := { name := "filesOnce", fn := fun _ => fun
  | [d1, d2, d3] => { results := [.lit (.bool false)], args := [d1, d2, d3] }
  | _ => none }
def FilesOnceWrongFalsely : Prop := filesOnceRow.holds Tryd.pinned (OpenSpec.ofChange filesOnceWrong)

/-- 'armadalaw05.FilesParts': WHATEVER THE INPUT: true; the input reads as it did. -/
def filesPartsSpec : ChangeSpec := { name := "filesParts", fn := fun _ => fun
  | [d1, d2] => { results := [.lit (.bool true)], args := [d1, d2] }
  | _ => none }
def filesPartsRow : OpenClaim := { program := "ytnhhbmekjoanbaadoor", sum := "998b47d541617aba22e7176dbbcafcdb081f69a5ee7152c1b5268c67e7eb65d0", func := "armada/armadalaw05.FilesParts", spec := "filesParts", inPlace := ["internal/bytealg.IndexByteString", "internal/bytealg.IndexString", "internal/bytealg.abigen_runtime_cmpstring", "slices.overlaps[armada/api.File]", "internal/abi.NoEscape"], unfollowed := true, recurses := true, named := ["unicode/utf8.first", "unicode/utf8.acceptRanges", "internal/bytealg.MaxLen"], apart := false, laid := [("unicode/utf8.acceptRanges", laid_unicode_utf8_acceptRanges), ("unicode/utf8.first", laid_unicode_utf8_first)] }
def FilesPartsSaid : Prop := filesPartsRow.holds Tryd.pinned (OpenSpec.ofChange filesPartsSpec)

/-- ITS FALSE NEIGHBOUR: 'it returns false'. Refute it at one input. -/
def filesPartsWrong : ChangeSpec := { name := "filesParts", fn := fun _ => fun
  | [d1, d2] => { results := [.lit (.bool false)], args := [d1, d2] }
  | _ => none }
def FilesPartsWrongFalsely : Prop := filesPartsRow.holds Tryd.pinned (OpenSpec.ofChange filesPartsWrong)

/-- 'armadalaw05.FilesLeast': WHATEVER THE INPUT: true; the input reads as it did. -/
def filesLeastSpec : ChangeSpec := { name := "filesLeast", fn := fun _ => fun
  | [d1, d2] => { results := [.lit (.bool true)], args := [d1, d2] }
  | _ => none }
def filesLeastRow : OpenClaim := { program := "ytnhhbmekjoanbaadoor", sum := "998b47d541617aba22e7176dbbcafcdb081f69a5ee7152c1b5268c67e7eb65d0", func := "armada/armadalaw05.FilesLeast", spec := "filesLeast", inPlace := ["internal/bytealg.IndexByteString", "internal/bytealg.IndexString", "internal/bytealg.abigen_runtime_cmpstring", "slices.overlaps[armada/api.File]", "internal/abi.NoEscape"], unfollowed := true, recurses := true, named := ["unicode/utf8.first", "unicode/utf8.acceptRanges", "internal/bytealg.MaxLen"], apart := false, laid := [("unicode/utf8.acceptRanges", laid_unicode_utf8_acceptRanges), ("unicode/utf8.first", laid_unicode_utf8_first)] }
def FilesLeastSaid : Prop := filesLeastRow.holds Tryd.pinned (OpenSpec.ofChange filesLeastSpec)

/-- ITS FALSE NEIGHBOUR: 'it returns false'. Refute it at one input. -/
def filesLeastWrong : ChangeSpec := { name := "filesLeast", fn := fun _ => fun
  | [d1, d2] => { results := [.lit (.bool false)], args := [d1, d2] }
  | _ => none }
def FilesLeastWrongFalsely : Prop := filesLeastRow.holds Tryd.pinned (OpenSpec.ofChange filesLeastWrong)

/- THE SECOND FORM. 'bulk': how many values and letters a reading holds, each counted each time it is reached (what is shared counts as often as it is met; a slice's spare places count too). A statement '..UptoSaid' is the law's where the arguments, and the package variables that the reading takes, are together of bulk at most 1048576: NARROWER than '..Said'. Prove '..Said' where nothing that the law and all that it calls make is longer than what came in: it says more and counts as full. Else prove '..UptoSaid'. A law counts once. -/
mutual
def uptoBulk {H : Type} : DataW H → Nat
  | .lit (.string bytes) => bytes.length + 1
  | .lit _ => 1
  | .nil => 1
  | .ptr d => uptoBulk d + 1
  | .slice elems spare => uptoBulkAll elems + uptoBulkAll spare + 1
  | .agg parts => uptoBulkAll parts + 1
  | .iface _ d => uptoBulk d + 1
  | .map entries => uptoBulkEntries entries + 1
  | .held _ => 1
def uptoBulkAll {H : Type} : List (DataW H) → Nat
  | [] => 0
  | d :: r => uptoBulk d + uptoBulkAll r
def uptoBulkEntries {H : Type} : List (Lit × DataW H) → Nat
  | [] => 0
  | x :: r => uptoBulkEntry x + uptoBulkEntries r
def uptoBulkEntry {H : Type} : Lit × DataW H → Nat
  | (.string bytes, d) => bytes.length + uptoBulk d + 1
  | (_, d) => uptoBulk d + 1
 end
def uptoSmall : (H : Type) → List (DataW H) → Bool := fun _ ds => decide (uptoBulkAll ds ≤ 1048576)
def OpenSpec.upto (s : _root_.Go.ChangeSpec) : _root_.Go.OpenSpec := { _root_.Go.OpenSpec.ofChange s with cond := some uptoSmall }

/-- 'armadalaw05.FilesTells', WHERE WHAT IT READS IS OF BULK AT MOST 1048576: true; the input reads as it did. -/
def filesTellsUptoRow : OpenClaim := { program := "ytnhhbmekjoanbaadoor", sum := "998b47d541617aba22e7176dbbcafcdb081f69a5ee7152c1b5268c67e7eb65d0", func := "armada/armadalaw05.FilesTells", spec := "filesTells", inPlace := ["internal/bytealg.IndexByteString", "internal/bytealg.IndexString", "internal/bytealg.abigen_runtime_cmpstring", "slices.overlaps[armada/api.File]", "internal/abi.NoEscape"], unfollowed := true, recurses := true, named := ["unicode/utf8.first", "unicode/utf8.acceptRanges", "internal/bytealg.MaxLen"], apart := false, laid := [("unicode/utf8.acceptRanges", laid_unicode_utf8_acceptRanges), ("unicode/utf8.first", laid_unicode_utf8_first)], narrowed := true }
def FilesTellsUptoSaid : Prop := filesTellsUptoRow.holds Tryd.pinned (OpenSpec.upto filesTellsSpec)

/-- 'armadalaw05.FilesChange', WHERE WHAT IT READS IS OF BULK AT MOST 1048576: true; the input reads as it did. -/
def filesChangeUptoRow : OpenClaim := { program := "ytnhhbmekjoanbaadoor", sum := "998b47d541617aba22e7176dbbcafcdb081f69a5ee7152c1b5268c67e7eb65d0", func := "armada/armadalaw05.FilesChange", spec := "filesChange", inPlace := ["internal/bytealg.IndexByteString", "internal/bytealg.IndexString", "internal/bytealg.abigen_runtime_cmpstring", "slices.overlaps[armada/api.File]", "internal/abi.NoEscape"], unfollowed := true, recurses := true, named := ["unicode/utf8.first", "unicode/utf8.acceptRanges", "internal/bytealg.MaxLen"], apart := false, laid := [("unicode/utf8.acceptRanges", laid_unicode_utf8_acceptRanges), ("unicode/utf8.first", laid_unicode_utf8_first)], narrowed := true }
def FilesChangeUptoSaid : Prop := filesChangeUptoRow.holds Tryd.pinned (OpenSpec.upto filesChangeSpec)

/-- 'armadalaw05.FilesCodes', WHERE WHAT IT READS IS OF BULK AT MOST 1048576: true; the input reads as it did. -/
def filesCodesUptoRow : OpenClaim := { program := "ytnhhbmekjoanbaadoor", sum := "998b47d541617aba22e7176dbbcafcdb081f69a5ee7152c1b5268c67e7eb65d0", func := "armada/armadalaw05.FilesCodes", spec := "filesCodes", inPlace := ["internal/bytealg.IndexByteString", "internal/bytealg.IndexString", "internal/bytealg.abigen_runtime_cmpstring", "slices.overlaps[armada/api.File]", "internal/abi.NoEscape"], unfollowed := true, recurses := true, named := ["unicode/utf8.first", "unicode/utf8.acceptRanges", "internal/bytealg.MaxLen"], apart := false, laid := [("unicode/utf8.acceptRanges", laid_unicode_utf8_acceptRanges), ("unicode/utf8.first", laid_unicode_utf8_first)], narrowed := true }
def FilesCodesUptoSaid : Prop := filesCodesUptoRow.holds Tryd.pinned (OpenSpec.upto filesCodesSpec)

/-- 'armadalaw05.FilesBack', WHERE WHAT IT READS IS OF BULK AT MOST 1048576: true; the input reads as it did. -/
def filesBackUptoRow : OpenClaim := { program := "ytnhhbmekjoanbaadoor", sum := "998b47d541617aba22e7176dbbcafcdb081f69a5ee7152c1b5268c67e7eb65d0", func := "armada/armadalaw05.FilesBack", spec := "filesBack", inPlace := ["internal/bytealg.IndexByteString", "internal/bytealg.IndexString", "internal/bytealg.abigen_runtime_cmpstring", "slices.overlaps[armada/api.File]", "internal/abi.NoEscape"], unfollowed := true, recurses := true, named := ["unicode/utf8.first", "unicode/utf8.acceptRanges", "internal/bytealg.MaxLen"], apart := false, laid := [("unicode/utf8.acceptRanges", laid_unicode_utf8_acceptRanges), ("unicode/utf8.first", laid_unicode_utf8_first)], narrowed := true }
def FilesBackUptoSaid : Prop := filesBackUptoRow.holds Tryd.pinned (OpenSpec.upto filesBackSpec)

/-- 'armadalaw05.FilesOnce', WHERE WHAT IT READS IS OF BULK AT MOST 1048576: true; the input reads as it did. -/
def filesOnceUptoRow : OpenClaim := { program := "ytnhhbmekjoanbaadoor", sum := "998b47d541617aba22e7176dbbcafcdb081f69a5ee7152c1b5268c67e7eb65d0", func := "armada/armadalaw05.FilesOnce", spec := "filesOnce", inPlace := ["internal/bytealg.IndexByteString", "internal/bytealg.IndexString", "internal/bytealg.abigen_runtime_cmpstring", "slices.overlaps[armada/api.File]", "internal/abi.NoEscape"], unfollowed := true, recurses := true, named := ["unicode/utf8.first", "unicode/utf8.acceptRanges", "internal/bytealg.MaxLen"], apart := false, laid := [("unicode/utf8.acceptRanges", laid_unicode_utf8_acceptRanges), ("unicode/utf8.first", laid_unicode_utf8_first)], narrowed := true }
def FilesOnceUptoSaid : Prop := filesOnceUptoRow.holds Tryd.pinned (OpenSpec.upto filesOnceSpec)

/-- 'armadalaw05.FilesParts', WHERE WHAT IT READS IS OF BULK AT MOST 1048576: true; the input reads as it did. -/
def filesPartsUptoRow : OpenClaim := { program := "ytnhhbmekjoanbaadoor", sum := "998b47d541617aba22e7176dbbcafcdb081f69a5ee7152c1b5268c67e7eb65d0", func := "armada/armadalaw05.FilesParts", spec := "filesParts", inPlace := ["internal/bytealg.IndexByteString", "internal/bytealg.IndexString", "internal/bytealg.abigen_runtime_cmpstring", "slices.overlaps[armada/api.File]", "internal/abi.NoEscape"], unfollowed := true, recurses := true, named := ["unicode/utf8.first", "unicode/utf8.acceptRanges", "internal/bytealg.MaxLen"], apart := false, laid := [("unicode/utf8.acceptRanges", laid_unicode_utf8_acceptRanges), ("unicode/utf8.first", laid_unicode_utf8_first)], narrowed := true }
def FilesPartsUptoSaid : Prop := filesPartsUptoRow.holds Tryd.pinned (OpenSpec.upto filesPartsSpec)

/-- 'armadalaw05.FilesLeast', WHERE WHAT IT READS IS OF BULK AT MOST 1048576: true; the input reads as it did. -/
def filesLeastUptoRow : OpenClaim := { program := "ytnhhbmekjoanbaadoor", sum := "998b47d541617aba22e7176dbbcafcdb081f69a5ee7152c1b5268c67e7eb65d0", func := "armada/armadalaw05.FilesLeast", spec := "filesLeast", inPlace := ["internal/bytealg.IndexByteString", "internal/bytealg.IndexString", "internal/bytealg.abigen_runtime_cmpstring", "slices.overlaps[armada/api.File]", "internal/abi.NoEscape"], unfollowed := true, recurses := true, named := ["unicode/utf8.first", "unicode/utf8.acceptRanges", "internal/bytealg.MaxLen"], apart := false, laid := [("unicode/utf8.acceptRanges", laid_unicode_utf8_acceptRanges), ("unicode/utf8.first", laid_unicode_utf8_first)], narrowed := true }
def FilesLeastUptoSaid : Prop := filesLeastUptoRow.holds Tryd.pinned (OpenSpec.upto filesLeastSpec)

end Rows
end Go.Proofs.YtnhhbmekjoanbaaDoor
