/-
  No cell of these rows narrows 'for every input' (looked for: loops, veiled, ifaces, maps, wideKeys, modest, calm, conditions, laid).
  DERIVED. THE GIVEN ROWS OF THIS SEAT. 5 by the template 'for every input the law returns true; each argument reads behind the call as it read before'; 0 by the template 'total and deterministic' (their statements: YtajgpmeilpjadaaTotals.lean).
  GIVEN WITH THE SEED: the statements are not yours to turn. If you find one false, say at which input.
  Laid BY PROGRAM, IN A SANDBOX (cutbox-rows.mjs): the forced cells as the released guide's own fill.sh prints them over the translation 5acfd8a56e79bd31… (all of the seat's roots in one cut). By AI agents, Wed Nov 11 2026. No macro, syntax, notation, axiom, sorry.
-/
import Derived.Test.YtajgpmeilpjadaaChecked
import GoSem.Claim
import GoSem.ClaimJoined
import GoSem.ClaimMapViews
import Derived.JoinedTies
import Derived.KernelRfl
namespace Go.Proofs.Ytajgpmeilpjadaa
/- THE CELL 'sum', in the pinned program and in every row, IS THE sha256 OF THE DUMP (.gsa) THAT YtajgpmeilpjadaaProg.lean LOADS. Nothing in Lean hashes anything: it is a label: what it is worth is what the hold of that sum in a sandbox is worth. -/
noncomputable def Try.pinned : Pinned := { name := "ytajgpmeilpjadaa", sum := "5acfd8a56e79bd31ab8239e8cdea767cb98c5bd033c23eea11167f15ce9f88fb", checked := Try.checked }
namespace Rows
def none {H : Type} : Left H := { results := [], args := [] }

/-- 'armadalaw03.RecHeads': WHATEVER THE INPUT: true; the input reads as it did. -/
def recHeadsSpec : ChangeSpec := { name := "recHeads", fn := fun _ => fun
  | [d1, d2] => { results := [.lit (.bool true)], args := [d1, d2] }
  | _ => none }
def recHeadsRow : OpenClaim := { program := "ytajgpmeilpjadaa", sum := "5acfd8a56e79bd31ab8239e8cdea767cb98c5bd033c23eea11167f15ce9f88fb", func := "armada/armadalaw03.RecHeads", spec := "recHeads", inPlace := ["internal/abi.NoEscape", "internal/bytealg.MakeNoZero"], unfollowed := true, recurses := true, apart := false }
def RecHeadsSaid : Prop := recHeadsRow.holds Try.pinned (OpenSpec.ofChange recHeadsSpec)

/-- ITS FALSE NEIGHBOUR: 'it returns false'. Refute it at one input. -/
def recHeadsWrong : ChangeSpec := { name := "recHeads", fn := fun _ => fun
  | [d1, d2] => { results := [.lit (.bool false)], args := [d1, d2] }
  | _ => none }
def RecHeadsWrongFalsely : Prop := recHeadsRow.holds Try.pinned (OpenSpec.ofChange recHeadsWrong)

/-- 'armadalaw03.RecCuts': WHATEVER THE INPUT: true; the input reads as it did. -/
def recCutsSpec : ChangeSpec := { name := "recCuts", fn := fun _ => fun
  | [d1, d2, d3] => { results := [.lit (.bool true)], args := [d1, d2, d3] }
  | _ => none }
def recCutsRow : OpenClaim := { program := "ytajgpmeilpjadaa", sum := "5acfd8a56e79bd31ab8239e8cdea767cb98c5bd033c23eea11167f15ce9f88fb", func := "armada/armadalaw03.RecCuts", spec := "recCuts", inPlace := ["internal/abi.NoEscape", "internal/bytealg.MakeNoZero"], unfollowed := true, recurses := true, apart := false }
def RecCutsSaid : Prop := recCutsRow.holds Try.pinned (OpenSpec.ofChange recCutsSpec)

/-- ITS FALSE NEIGHBOUR: 'it returns false'. Refute it at one input. -/
def recCutsWrong : ChangeSpec := { name := "recCuts", fn := fun _ => fun
  | [d1, d2, d3] => { results := [.lit (.bool false)], args := [d1, d2, d3] }
  | _ => none }
def RecCutsWrongFalsely : Prop := recCutsRow.holds Try.pinned (OpenSpec.ofChange recCutsWrong)

/-- 'armadalaw03.RecBack': WHATEVER THE INPUT: true; the input reads as it did. -/
def recBackSpec : ChangeSpec := { name := "recBack", fn := fun _ => fun
  | [d1, d2, d3] => { results := [.lit (.bool true)], args := [d1, d2, d3] }
  | _ => none }
def recBackRow : OpenClaim := { program := "ytajgpmeilpjadaa", sum := "5acfd8a56e79bd31ab8239e8cdea767cb98c5bd033c23eea11167f15ce9f88fb", func := "armada/armadalaw03.RecBack", spec := "recBack", inPlace := ["internal/abi.NoEscape", "internal/bytealg.MakeNoZero"], unfollowed := true, recurses := true, apart := false }
def RecBackSaid : Prop := recBackRow.holds Try.pinned (OpenSpec.ofChange recBackSpec)

/-- ITS FALSE NEIGHBOUR: 'it returns false'. Refute it at one input. -/
def recBackWrong : ChangeSpec := { name := "recBack", fn := fun _ => fun
  | [d1, d2, d3] => { results := [.lit (.bool false)], args := [d1, d2, d3] }
  | _ => none }
def RecBackWrongFalsely : Prop := recBackRow.holds Try.pinned (OpenSpec.ofChange recBackWrong)

/-- 'armadalaw03.RecSpoilt': WHATEVER THE INPUT: true; the input reads as it did. -/
def recSpoiltSpec : ChangeSpec := { name := "recSpoilt", fn := fun _ => fun
  | [d1, d2, d3] => { results := [.lit (.bool true)], args := [d1, d2, d3] }
  | _ => none }
def recSpoiltRow : OpenClaim := { program := "ytajgpmeilpjadaa", sum := "5acfd8a56e79bd31ab8239e8cdea767cb98c5bd033c23eea11167f15ce9f88fb", func := "armada/armadalaw03.RecSpoilt", spec := "recSpoilt", inPlace := ["internal/abi.NoEscape", "internal/bytealg.MakeNoZero"], unfollowed := true, recurses := true, apart := false }
def RecSpoiltSaid : Prop := recSpoiltRow.holds Try.pinned (OpenSpec.ofChange recSpoiltSpec)

/-- ITS FALSE NEIGHBOUR: 'it returns false'. Refute it at one input. -/
def recSpoiltWrong : ChangeSpec := { name := "recSpoilt", fn := fun _ => fun
  | [d1, d2, d3] => { results := [.lit (.bool false)], args := [d1, d2, d3] }
  | _ => none }
def RecSpoiltWrongFalsely : Prop := recSpoiltRow.holds Try.pinned (OpenSpec.ofChange recSpoiltWrong)

/-- 'armadalaw03.RecLong': WHATEVER THE INPUT: true; the input reads as it did. -/
def recLongSpec : ChangeSpec := { name := "recLong", fn := fun _ => fun
  | [d] => { results := [.lit (.bool true)], args := [d] }
  | _ => none }
def recLongRow : OpenClaim := { program := "ytajgpmeilpjadaa", sum := "5acfd8a56e79bd31ab8239e8cdea767cb98c5bd033c23eea11167f15ce9f88fb", func := "armada/armadalaw03.RecLong", spec := "recLong", inPlace := ["internal/abi.NoEscape", "internal/bytealg.MakeNoZero"], unfollowed := true, recurses := true, apart := false }
def RecLongSaid : Prop := recLongRow.holds Try.pinned (OpenSpec.ofChange recLongSpec)

/-- ITS FALSE NEIGHBOUR: 'it returns false'. Refute it at one input. -/
def recLongWrong : ChangeSpec := { name := "recLong", fn := fun _ => fun
  | [d] => { results := [.lit (.bool false)], args := [d] }
  | _ => none }
def RecLongWrongFalsely : Prop := recLongRow.holds Try.pinned (OpenSpec.ofChange recLongWrong)

/- THE SECOND FORM. 'bulk': how many values and letters a reading holds, each counted each time it is reached (what is shared counts as often as it is met; a slice's spare places count too). A statement '..UptoSaid' is the law's where the arguments, and the package variables that the reading takes, are together of bulk at most 1048576: NARROWER than '..Said'. Prove '..Said' where nothing that the law and all that it calls make is longer than what came in: it says more and counts as full. Else prove '..UptoSaid'. A law counts once. -/
mutual
def uptoBulk {H : Type} : DataW H → Nat
  | .lit (.string bytes) => bytes.length + 1
  | .lit _ => 1
  | .nil => 1
  | .ptr d => uptoBulk d + 1
  | .slice elems spare => uptoBulkAll elems + uptoBulkAll spare + 1
  | .agg parts => uptoBulkAll parts + 1
  | .iface _ d => uptoBulk d + 1
  | .map entries => uptoBulkEntries entries + 1
  | .held _ => 1
def uptoBulkAll {H : Type} : List (DataW H) → Nat
  | [] => 0
  | d :: r => uptoBulk d + uptoBulkAll r
def uptoBulkEntries {H : Type} : List (Lit × DataW H) → Nat
  | [] => 0
  | x :: r => uptoBulkEntry x + uptoBulkEntries r
def uptoBulkEntry {H : Type} : Lit × DataW H → Nat
  | (.string bytes, d) => bytes.length + uptoBulk d + 1
  | (_, d) => uptoBulk d + 1
 end
def uptoSmall : (H : Type) → List (DataW H) → Bool := fun _ ds => decide (uptoBulkAll ds ≤ 1048576)
def OpenSpec.upto (s : _root_.Go.ChangeSpec) : _root_.Go.OpenSpec := { _root_.Go.OpenSpec.ofChange s with cond := some uptoSmall }

/-- 'armadalaw03.RecHeads', WHERE WHAT IT READS IS OF BULK AT MOST 1048576: true; the input reads as it did. -/
def recHeadsUptoRow : OpenClaim := { program := "ytajgpmeilpjadaa", sum := "5acfd8a56e79bd31ab8239e8cdea767cb98c5bd033c23eea11167f15ce9f88fb", func := "armada/armadalaw03.RecHeads", spec := "recHeads", inPlace := ["internal/abi.NoEscape", "internal/bytealg.MakeNoZero"], unfollowed := true, recurses := true, apart := false, narrowed := true }
def RecHeadsUptoSaid : Prop := recHeadsUptoRow.holds Try.pinned (OpenSpec.upto recHeadsSpec)

/-- 'armadalaw03.RecCuts', WHERE WHAT IT READS IS OF BULK AT MOST 1048576: true; the input reads as it did. -/
def recCutsUptoRow : OpenClaim := { program := "ytajgpmeilpjadaa", sum := "5acfd8a56e79bd31ab8239e8cdea767cb98c5bd033c23eea11167f15ce9f88fb", func := "armada/armadalaw03.RecCuts", spec := "recCuts", inPlace := ["internal/abi.NoEscape", "internal/bytealg.MakeNoZero"], unfollowed := true, recurses := true, apart := false, narrowed := true }
def RecCutsUptoSaid : Prop := recCutsUptoRow.holds Try.pinned (OpenSpec.upto recCutsSpec)

/-- 'armadalaw03.RecBack', WHERE WHAT IT READS IS OF BULK AT MOST 1048576: true; the input reads as it did. -/
def recBackUptoRow : OpenClaim := { program := "ytajgpmeilpjadaa", sum := "5acfd8a56e79bd31ab8239e8cdea767cb98c5bd033c23eea11167f15ce9f88fb", func := "armada/armadalaw03.RecBack", spec := "recBack", inPlace := ["internal/abi.NoEscape", "internal/bytealg.MakeNoZero"], unfollowed := true, recurses := true, apart := false, narrowed := true }
def RecBackUptoSaid : Prop := recBackUptoRow.holds Try.pinned (OpenSpec.upto recBackSpec)

/-- 'armadalaw03.RecSpoilt', WHERE WHAT IT READS IS OF BULK AT MOST 1048576: true; the input reads as it did. -/
def recSpoiltUptoRow : OpenClaim := { program := "ytajgpmeilpjadaa", sum := "5acfd8a56e79bd31ab8239e8cdea767cb98c5bd033c23eea11167f15ce9f88fb", func := "armada/armadalaw03.RecSpoilt", spec := "recSpoilt", inPlace := ["internal/abi.NoEscape", "internal/bytealg.MakeNoZero"], unfollowed := true, recurses := true, apart := false, narrowed := true }
def RecSpoiltUptoSaid : Prop := recSpoiltUptoRow.holds Try.pinned (OpenSpec.upto recSpoiltSpec)

/-- 'armadalaw03.RecLong', WHERE WHAT IT READS IS OF BULK AT MOST 1048576: true; the input reads as it did. -/
def recLongUptoRow : OpenClaim := { program := "ytajgpmeilpjadaa", sum := "5acfd8a56e79bd31ab8239e8cdea767cb98c5bd033c23eea11167f15ce9f88fb", func := "armada/armadalaw03.RecLong", spec := "recLong", inPlace := ["internal/abi.NoEscape", "internal/bytealg.MakeNoZero"], unfollowed := true, recurses := true, apart := false, narrowed := true }
def RecLongUptoSaid : Prop := recLongUptoRow.holds Try.pinned (OpenSpec.upto recLongSpec)

end Rows
end Go.Proofs.Ytajgpmeilpjadaa
