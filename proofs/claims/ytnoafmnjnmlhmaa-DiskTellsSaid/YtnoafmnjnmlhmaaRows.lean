/-
  No cell of these rows narrows 'for every input' (looked for: loops, veiled, ifaces, maps, wideKeys, modest, calm, conditions, laid).
  DERIVED. THE GIVEN ROWS OF THIS SEAT. 6 by the template 'for every input the law returns true; each argument reads behind the call as it read before'; 0 by the template 'total and deterministic' (their statements: YtnoafmnjnmlhmaaTotals.lean).
  GIVEN WITH THE SEED: the statements are not yours to turn. If you find one false, say at which input.
  Laid BY PROGRAM, IN A SANDBOX (cutbox-rows.mjs): the forced cells as the released guide's own fill.sh prints them over the translation a1ad2cd91b24d892… (all of the seat's roots in one cut). By AI agents, Wed Nov 11 2026. No macro, syntax, notation, axiom, sorry.
-/
import Derived.Test.YtnoafmnjnmlhmaaChecked
import GoSem.Claim
import GoSem.ClaimJoined
import GoSem.ClaimMapViews
import Derived.JoinedTies
import Derived.KernelRfl
namespace Go.Proofs.Ytnoafmnjnmlhmaa
/- THE CELL 'sum', in the pinned program and in every row, IS THE sha256 OF THE DUMP (.gsa) THAT YtnoafmnjnmlhmaaProg.lean LOADS. Nothing in Lean hashes anything: it is a label: what it is worth is what the hold of that sum in a sandbox is worth. -/
noncomputable def Try.pinned : Pinned := { name := "ytnoafmnjnmlhmaa", sum := "a1ad2cd91b24d892e0797c716dccd05f1a4045e337bdbcba2109b84fef022599", checked := Try.checked }
namespace Rows
def none {H : Type} : Left H := { results := [], args := [] }

/-- 'armadalaw01.DiskTells': WHATEVER THE INPUT: true; the input reads as it did. -/
def diskTellsSpec : ChangeSpec := { name := "diskTells", fn := fun _ => fun
  | [d1, d2, d3] => { results := [.lit (.bool true)], args := [d1, d2, d3] }
  | _ => none }
def diskTellsRow : OpenClaim := { program := "ytnoafmnjnmlhmaa", sum := "a1ad2cd91b24d892e0797c716dccd05f1a4045e337bdbcba2109b84fef022599", func := "armada/armadalaw01.DiskTells", spec := "diskTells", inPlace := ["internal/abi.NoEscape", "internal/bytealg.MakeNoZero"], unfollowed := true, recurses := true, apart := false }
def DiskTellsSaid : Prop := diskTellsRow.holds Try.pinned (OpenSpec.ofChange diskTellsSpec)

/-- ITS FALSE NEIGHBOUR: 'it returns false'. Refute it at one input. -/
def diskTellsWrong : ChangeSpec := { name := "diskTells", fn := fun _ => fun
  | [d1, d2, d3] => { results := [.lit (.bool false)], args := [d1, d2, d3] }
  | _ => none }
def DiskTellsWrongFalsely : Prop := diskTellsRow.holds Try.pinned (OpenSpec.ofChange diskTellsWrong)

/-- 'armadalaw01.DiskKeeps': WHATEVER THE INPUT: true; the input reads as it did. -/
def diskKeepsSpec : ChangeSpec := { name := "diskKeeps", fn := fun _ => fun
  | [d1, d2, d3] => { results := [.lit (.bool true)], args := [d1, d2, d3] }
  | _ => none }
def diskKeepsRow : OpenClaim := { program := "ytnoafmnjnmlhmaa", sum := "a1ad2cd91b24d892e0797c716dccd05f1a4045e337bdbcba2109b84fef022599", func := "armada/armadalaw01.DiskKeeps", spec := "diskKeeps", inPlace := ["internal/abi.NoEscape", "internal/bytealg.MakeNoZero"], unfollowed := true, recurses := true, apart := false }
def DiskKeepsSaid : Prop := diskKeepsRow.holds Try.pinned (OpenSpec.ofChange diskKeepsSpec)

/-- ITS FALSE NEIGHBOUR: 'it returns false'. Refute it at one input. -/
def diskKeepsWrong : ChangeSpec := { name := "diskKeeps", fn := fun _ => fun
  | [d1, d2, d3] => { results := [.lit (.bool false)], args := [d1, d2, d3] }
  | _ => none }
def DiskKeepsWrongFalsely : Prop := diskKeepsRow.holds Try.pinned (OpenSpec.ofChange diskKeepsWrong)

/-- 'armadalaw01.DiskLast': WHATEVER THE INPUT: true; the input reads as it did. -/
def diskLastSpec : ChangeSpec := { name := "diskLast", fn := fun _ => fun
  | [d1, d2, d3] => { results := [.lit (.bool true)], args := [d1, d2, d3] }
  | _ => none }
def diskLastRow : OpenClaim := { program := "ytnoafmnjnmlhmaa", sum := "a1ad2cd91b24d892e0797c716dccd05f1a4045e337bdbcba2109b84fef022599", func := "armada/armadalaw01.DiskLast", spec := "diskLast", inPlace := ["internal/abi.NoEscape", "internal/bytealg.MakeNoZero"], unfollowed := true, recurses := true, apart := false }
def DiskLastSaid : Prop := diskLastRow.holds Try.pinned (OpenSpec.ofChange diskLastSpec)

/-- ITS FALSE NEIGHBOUR: 'it returns false'. Refute it at one input. -/
def diskLastWrong : ChangeSpec := { name := "diskLast", fn := fun _ => fun
  | [d1, d2, d3] => { results := [.lit (.bool false)], args := [d1, d2, d3] }
  | _ => none }
def DiskLastWrongFalsely : Prop := diskLastRow.holds Try.pinned (OpenSpec.ofChange diskLastWrong)

/-- 'armadalaw01.DiskRuns': WHATEVER THE INPUT: true; the input reads as it did. -/
def diskRunsSpec : ChangeSpec := { name := "diskRuns", fn := fun _ => fun
  | [d1, d2, d3] => { results := [.lit (.bool true)], args := [d1, d2, d3] }
  | _ => none }
def diskRunsRow : OpenClaim := { program := "ytnoafmnjnmlhmaa", sum := "a1ad2cd91b24d892e0797c716dccd05f1a4045e337bdbcba2109b84fef022599", func := "armada/armadalaw01.DiskRuns", spec := "diskRuns", inPlace := ["internal/abi.NoEscape", "internal/bytealg.MakeNoZero"], unfollowed := true, recurses := true, apart := false }
def DiskRunsSaid : Prop := diskRunsRow.holds Try.pinned (OpenSpec.ofChange diskRunsSpec)

/-- ITS FALSE NEIGHBOUR: 'it returns false'. Refute it at one input. -/
def diskRunsWrong : ChangeSpec := { name := "diskRuns", fn := fun _ => fun
  | [d1, d2, d3] => { results := [.lit (.bool false)], args := [d1, d2, d3] }
  | _ => none }
def DiskRunsWrongFalsely : Prop := diskRunsRow.holds Try.pinned (OpenSpec.ofChange diskRunsWrong)

/-- 'armadalaw01.DiskParts': WHATEVER THE INPUT: true; the input reads as it did. -/
def diskPartsSpec : ChangeSpec := { name := "diskParts", fn := fun _ => fun
  | [d1, d2, d3] => { results := [.lit (.bool true)], args := [d1, d2, d3] }
  | _ => none }
def diskPartsRow : OpenClaim := { program := "ytnoafmnjnmlhmaa", sum := "a1ad2cd91b24d892e0797c716dccd05f1a4045e337bdbcba2109b84fef022599", func := "armada/armadalaw01.DiskParts", spec := "diskParts", inPlace := ["internal/abi.NoEscape", "internal/bytealg.MakeNoZero"], unfollowed := true, recurses := true, apart := false }
def DiskPartsSaid : Prop := diskPartsRow.holds Try.pinned (OpenSpec.ofChange diskPartsSpec)

/-- ITS FALSE NEIGHBOUR: 'it returns false'. Refute it at one input. -/
def diskPartsWrong : ChangeSpec := { name := "diskParts", fn := fun _ => fun
  | [d1, d2, d3] => { results := [.lit (.bool false)], args := [d1, d2, d3] }
  | _ => none }
def DiskPartsWrongFalsely : Prop := diskPartsRow.holds Try.pinned (OpenSpec.ofChange diskPartsWrong)

/-- 'armadalaw01.DiskErrors': WHATEVER THE INPUT: true; the input reads as it did. -/
def diskErrorsSpec : ChangeSpec := { name := "diskErrors", fn := fun _ => fun
  | [d1, d2] => { results := [.lit (.bool true)], args := [d1, d2] }
  | _ => none }
def diskErrorsRow : OpenClaim := { program := "ytnoafmnjnmlhmaa", sum := "a1ad2cd91b24d892e0797c716dccd05f1a4045e337bdbcba2109b84fef022599", func := "armada/armadalaw01.DiskErrors", spec := "diskErrors", inPlace := ["internal/abi.NoEscape", "internal/bytealg.MakeNoZero"], unfollowed := true, recurses := true, apart := false }
def DiskErrorsSaid : Prop := diskErrorsRow.holds Try.pinned (OpenSpec.ofChange diskErrorsSpec)

/-- ITS FALSE NEIGHBOUR: 'it returns false'. Refute it at one input. -/
def diskErrorsWrong : ChangeSpec := { name := "diskErrors", fn := fun _ => fun
  | [d1, d2] => { results := [.lit (.bool false)], args := [d1, d2] }
  | _ => none }
def DiskErrorsWrongFalsely : Prop := diskErrorsRow.holds Try.pinned (OpenSpec.ofChange diskErrorsWrong)

/- THE SECOND FORM. 'bulk': how many values and letters a reading holds, each counted each time it is reached (what is shared counts as often as it is met; a slice's spare places count too). A statement '..UptoSaid' is the law's where the arguments, and the package variables that the reading takes, are together of bulk at most 1048576: NARROWER than '..Said'. Prove '..Said' where nothing that the law and all that it calls make is longer than what came in: it says more and counts as full. Else prove '..UptoSaid'. A law counts once. -/
mutual
def uptoBulk {H : Type} : DataW H → Nat
  | .lit (.string bytes) => bytes.length + 1
  | .lit _ => 1
  | .nil => 1
  | .ptr d => uptoBulk d + 1
  | .slice elems spare => uptoBulkAll elems + uptoBulkAll spare + 1
  | .agg parts => uptoBulkAll parts + 1
  | .iface _ d => uptoBulk d + 1
  | .map entries => uptoBulkEntries entries + 1
  | .held _ => 1
def uptoBulkAll {H : Type} : List (DataW H) → Nat
  | [] => 0
  | d :: r => uptoBulk d + uptoBulkAll r
def uptoBulkEntries {H : Type} : List (Lit × DataW H) → Nat
  | [] => 0
  | x :: r => uptoBulkEntry x + uptoBulkEntries r
def uptoBulkEntry {H : Type} : Lit × DataW H → Nat
  | (.string bytes, d) => bytes.length + uptoBulk d + 1
  | (_, d) => uptoBulk d + 1
 end
def uptoSmall : (H : Type) → List (DataW H) → Bool := fun _ ds => decide (uptoBulkAll ds ≤ 1048576)
def OpenSpec.upto (s : _root_.Go.ChangeSpec) : _root_.Go.OpenSpec := { _root_.Go.OpenSpec.ofChange s with cond := some uptoSmall }

/-- 'armadalaw01.DiskTells', WHERE WHAT IT READS IS OF BULK AT MOST 1048576: true; the input reads as it did. -/
def diskTellsUptoRow : OpenClaim := { program := "ytnoafmnjnmlhmaa", sum := "a1ad2cd91b24d892e0797c716dccd05f1a4045e337bdbcba2109b84fef022599", func := "armada/armadalaw01.DiskTells", spec := "diskTells", inPlace := ["internal/abi.NoEscape", "internal/bytealg.MakeNoZero"], unfollowed := true, recurses := true, apart := false, narrowed := true }
def DiskTellsUptoSaid : Prop := diskTellsUptoRow.holds Try.pinned (OpenSpec.upto diskTellsSpec)

/-- 'armadalaw01.DiskKeeps', WHERE WHAT IT READS IS OF BULK AT MOST 1048576: true; the input reads as it did. -/
def diskKeepsUptoRow : OpenClaim := { program := "ytnoafmnjnmlhmaa", sum := "a1ad2cd91b24d892e0797c716dccd05f1a4045e337bdbcba2109b84fef022599", func := "armada/armadalaw01.DiskKeeps", spec := "diskKeeps", inPlace := ["internal/abi.NoEscape", "internal/bytealg.MakeNoZero"], unfollowed := true, recurses := true, apart := false, narrowed := true }
def DiskKeepsUptoSaid : Prop := diskKeepsUptoRow.holds Try.pinned (OpenSpec.upto diskKeepsSpec)

/-- 'armadalaw01.DiskLast', WHERE WHAT IT READS IS OF BULK AT MOST 1048576: true; the input reads as it did. -/
def diskLastUptoRow : OpenClaim := { program := "ytnoafmnjnmlhmaa", sum := "a1ad2cd91b24d892e0797c716dccd05f1a4045e337bdbcba2109b84fef022599", func := "armada/armadalaw01.DiskLast", spec := "diskLast", inPlace := ["internal/abi.NoEscape", "internal/bytealg.MakeNoZero"], unfollowed := true, recurses := true, apart := false, narrowed := true }
def DiskLastUptoSaid : Prop := diskLastUptoRow.holds Try.pinned (OpenSpec.upto diskLastSpec)

/-- 'armadalaw01.DiskRuns', WHERE WHAT IT READS IS OF BULK AT MOST 1048576: true; the input reads as it did. -/
def diskRunsUptoRow : OpenClaim := { program := "ytnoafmnjnmlhmaa", sum := "a1ad2cd91b24d892e0797c716dccd05f1a4045e337bdbcba2109b84fef022599", func := "armada/armadalaw01.DiskRuns", spec := "diskRuns", inPlace := ["internal/abi.NoEscape", "internal/bytealg.MakeNoZero"], unfollowed := true, recurses := true, apart := false, narrowed := true }
def DiskRunsUptoSaid : Prop := diskRunsUptoRow.holds Try.pinned (OpenSpec.upto diskRunsSpec)

/-- 'armadalaw01.DiskParts', WHERE WHAT IT READS IS OF BULK AT MOST 1048576: true; the input reads as it did. -/
def diskPartsUptoRow : OpenClaim := { program := "ytnoafmnjnmlhmaa", sum := "a1ad2cd91b24d892e0797c716dccd05f1a4045e337bdbcba2109b84fef022599", func := "armada/armadalaw01.DiskParts", spec := "diskParts", inPlace := ["internal/abi.NoEscape", "internal/bytealg.MakeNoZero"], unfollowed := true, recurses := true, apart := false, narrowed := true }
def DiskPartsUptoSaid : Prop := diskPartsUptoRow.holds Try.pinned (OpenSpec.upto diskPartsSpec)

/-- 'armadalaw01.DiskErrors', WHERE WHAT IT READS IS OF BULK AT MOST 1048576: true; the input reads as it did. -/
def diskErrorsUptoRow : OpenClaim := { program := "ytnoafmnjnmlhmaa", sum := "a1ad2cd91b24d892e0797c716dccd05f1a4045e337bdbcba2109b84fef022599", func := "armada/armadalaw01.DiskErrors", spec := "diskErrors", inPlace := ["internal/abi.NoEscape", "internal/bytealg.MakeNoZero"], unfollowed := true, recurses := true, apart := false, narrowed := true }
def DiskErrorsUptoSaid : Prop := diskErrorsUptoRow.holds Try.pinned (OpenSpec.upto diskErrorsSpec)

end Rows
end Go.Proofs.Ytnoafmnjnmlhmaa
