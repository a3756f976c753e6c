/-
  No cell of these rows narrows 'for every input' (looked for: loops, veiled, ifaces, maps, wideKeys, modest, calm, conditions, laid).
  DERIVED. THE GIVEN ROWS OF THIS SEAT. 5 by the template 'for every input the law returns true; each argument reads behind the call as it read before'; 0 by the template 'total and deterministic' (their statements: YtkejacgedipoeaaTotals.lean).
  GIVEN WITH THE SEED: the statements are not yours to turn. If you find one false, say at which input.
  Laid BY PROGRAM, IN A SANDBOX (cutbox-rows.mjs): the forced cells as the released guide's own fill.sh prints them over the translation 1857068b114984cf… (all of the seat's roots in one cut). By AI agents, Wed Nov 11 2026. No macro, syntax, notation, axiom, sorry.
-/
import Derived.Test.YtkejacgedipoeaaChecked
import GoSem.Claim
import GoSem.ClaimJoined
import GoSem.ClaimMapViews
import Derived.JoinedTies
import Derived.KernelRfl
namespace Go.Proofs.Ytkejacgedipoeaa
/- THE CELL 'sum', in the pinned program and in every row, IS THE sha256 OF THE DUMP (.gsa) THAT YtkejacgedipoeaaProg.lean LOADS. Nothing in Lean hashes anything: it is a label: what it is worth is what the hold of that sum in a sandbox is worth. -/
noncomputable def Try.pinned : Pinned := { name := "ytkejacgedipoeaa", sum := "1857068b114984cfb4e4fb9d7186cbd6cd746c622c651912b08e3948dd96e44b", checked := Try.checked }
namespace Rows
def none {H : Type} : Left H := { results := [], args := [] }

/-- 'armadalaw12.DigestTells': WHATEVER THE INPUT: true; the input reads as it did. -/
def digestTellsSpec : ChangeSpec := { name := "digestTells", fn := fun _ => fun
  | [d1, d2, d3] => { results := [.lit (.bool true)], args := [d1, d2, d3] }
  | _ => none }
def digestTellsRow : OpenClaim := { program := "ytkejacgedipoeaa", sum := "1857068b114984cfb4e4fb9d7186cbd6cd746c622c651912b08e3948dd96e44b", func := "armada/armadalaw12.DigestTells", spec := "digestTells", inPlace := ["internal/abi.NoEscape", "internal/bytealg.MakeNoZero"], apart := false }
def DigestTellsSaid : Prop := digestTellsRow.holds Try.pinned (OpenSpec.ofChange digestTellsSpec)

/-- ITS FALSE NEIGHBOUR: 'it returns false'. Refute it at one input. -/
def digestTellsWrong : ChangeSpec := { name := "digestTells", fn := fun _ => fun
  | [d1, d2, d3] => { results := [.lit (.bool false)], args := [d1, d2, d3] }
  | _ => none }
def DigestTellsWrongFalsely : Prop := digestTellsRow.holds Try.pinned (OpenSpec.ofChange digestTellsWrong)

/-- 'armadalaw12.DigestBlocks': WHATEVER THE INPUT: true; the input reads as it did. -/
def digestBlocksSpec : ChangeSpec := { name := "digestBlocks", fn := fun _ => fun
  | [d] => { results := [.lit (.bool true)], args := [d] }
  | _ => none }
def digestBlocksRow : OpenClaim := { program := "ytkejacgedipoeaa", sum := "1857068b114984cfb4e4fb9d7186cbd6cd746c622c651912b08e3948dd96e44b", func := "armada/armadalaw12.DigestBlocks", spec := "digestBlocks", inPlace := ["internal/abi.NoEscape", "internal/bytealg.MakeNoZero"], apart := false }
def DigestBlocksSaid : Prop := digestBlocksRow.holds Try.pinned (OpenSpec.ofChange digestBlocksSpec)

/-- ITS FALSE NEIGHBOUR: 'it returns false'. Refute it at one input. -/
def digestBlocksWrong : ChangeSpec := { name := "digestBlocks", fn := fun _ => fun
  | [d] => { results := [.lit (.bool false)], args := [d] }
  | _ => none }
def DigestBlocksWrongFalsely : Prop := digestBlocksRow.holds Try.pinned (OpenSpec.ofChange digestBlocksWrong)

/-- 'armadalaw12.DigestRoots': WHATEVER THE INPUT: true; the input reads as it did. -/
def digestRootsSpec : ChangeSpec := { name := "digestRoots", fn := fun _ => fun
  | [d] => { results := [.lit (.bool true)], args := [d] }
  | _ => none }
def digestRootsRow : OpenClaim := { program := "ytkejacgedipoeaa", sum := "1857068b114984cfb4e4fb9d7186cbd6cd746c622c651912b08e3948dd96e44b", func := "armada/armadalaw12.DigestRoots", spec := "digestRoots", inPlace := ["internal/abi.NoEscape", "internal/bytealg.MakeNoZero"], apart := false }
def DigestRootsSaid : Prop := digestRootsRow.holds Try.pinned (OpenSpec.ofChange digestRootsSpec)

/-- ITS FALSE NEIGHBOUR: 'it returns false'. Refute it at one input. -/
def digestRootsWrong : ChangeSpec := { name := "digestRoots", fn := fun _ => fun
  | [d] => { results := [.lit (.bool false)], args := [d] }
  | _ => none }
def DigestRootsWrongFalsely : Prop := digestRootsRow.holds Try.pinned (OpenSpec.ofChange digestRootsWrong)

/-- 'armadalaw12.DigestPads': WHATEVER THE INPUT: true; the input reads as it did. -/
def digestPadsSpec : ChangeSpec := { name := "digestPads", fn := fun _ => fun
  | [d] => { results := [.lit (.bool true)], args := [d] }
  | _ => none }
def digestPadsRow : OpenClaim := { program := "ytkejacgedipoeaa", sum := "1857068b114984cfb4e4fb9d7186cbd6cd746c622c651912b08e3948dd96e44b", func := "armada/armadalaw12.DigestPads", spec := "digestPads", inPlace := ["internal/abi.NoEscape", "internal/bytealg.MakeNoZero"], apart := false }
def DigestPadsSaid : Prop := digestPadsRow.holds Try.pinned (OpenSpec.ofChange digestPadsSpec)

/-- ITS FALSE NEIGHBOUR: 'it returns false'. Refute it at one input. -/
def digestPadsWrong : ChangeSpec := { name := "digestPads", fn := fun _ => fun
  | [d] => { results := [.lit (.bool false)], args := [d] }
  | _ => none }
def DigestPadsWrongFalsely : Prop := digestPadsRow.holds Try.pinned (OpenSpec.ofChange digestPadsWrong)

/-- 'armadalaw12.DigestHex': WHATEVER THE INPUT: true; the input reads as it did. -/
def digestHexSpec : ChangeSpec := { name := "digestHex", fn := fun _ => fun
  | [d1, d2] => { results := [.lit (.bool true)], args := [d1, d2] }
  | _ => none }
def digestHexRow : OpenClaim := { program := "ytkejacgedipoeaa", sum := "1857068b114984cfb4e4fb9d7186cbd6cd746c622c651912b08e3948dd96e44b", func := "armada/armadalaw12.DigestHex", spec := "digestHex", inPlace := ["internal/abi.NoEscape", "internal/bytealg.MakeNoZero"], apart := false }
def DigestHexSaid : Prop := digestHexRow.holds Try.pinned (OpenSpec.ofChange digestHexSpec)

/-- ITS FALSE NEIGHBOUR: 'it returns false'. Refute it at one input. -/
def digestHexWrong : ChangeSpec := { name := "digestHex", fn := fun _ => fun
  | [d1, d2] => { results := [.lit (.bool false)], args := [d1, d2] }
  | _ => none }
def DigestHexWrongFalsely : Prop := digestHexRow.holds Try.pinned (OpenSpec.ofChange digestHexWrong)

/- THE SECOND FORM. 'bulk': how many values and letters a reading holds, each counted each time it is reached (what is shared counts as often as it is met; a slice's spare places count too). A statement '..UptoSaid' is the law's where the arguments, and the package variables that the reading takes, are together of bulk at most 1048576: NARROWER than '..Said'. Prove '..Said' where nothing that the law and all that it calls make is longer than what came in: it says more and counts as full. Else prove '..UptoSaid'. A law counts once. -/
mutual
def uptoBulk {H : Type} : DataW H → Nat
  | .lit (.string bytes) => bytes.length + 1
  | .lit _ => 1
  | .nil => 1
  | .ptr d => uptoBulk d + 1
  | .slice elems spare => uptoBulkAll elems + uptoBulkAll spare + 1
  | .agg parts => uptoBulkAll parts + 1
  | .iface _ d => uptoBulk d + 1
  | .map entries => uptoBulkEntries entries + 1
  | .held _ => 1
def uptoBulkAll {H : Type} : List (DataW H) → Nat
  | [] => 0
  | d :: r => uptoBulk d + uptoBulkAll r
def uptoBulkEntries {H : Type} : List (Lit × DataW H) → Nat
  | [] => 0
  | x :: r => uptoBulkEntry x + uptoBulkEntries r
def uptoBulkEntry {H : Type} : Lit × DataW H → Nat
  | (.string bytes, d) => bytes.length + uptoBulk d + 1
  | (_, d) => uptoBulk d + 1
 end
def uptoSmall : (H : Type) → List (DataW H) → Bool := fun _ ds => decide (uptoBulkAll ds ≤ 1048576)
def OpenSpec.upto (s : _root_.Go.ChangeSpec) : _root_.Go.OpenSpec := { _root_.Go.OpenSpec.ofChange s with cond := some uptoSmall }

/-- 'armadalaw12.DigestTells', WHERE WHAT IT READS IS OF BULK AT MOST 1048576: true; the input reads as it did. -/
def digestTellsUptoRow : OpenClaim := { program := "ytkejacgedipoeaa", sum := "1857068b114984cfb4e4fb9d7186cbd6cd746c622c651912b08e3948dd96e44b", func := "armada/armadalaw12.DigestTells", spec := "digestTells", inPlace := ["internal/abi.NoEscape", "internal/bytealg.MakeNoZero"], apart := false, narrowed := true }
def DigestTellsUptoSaid : Prop := digestTellsUptoRow.holds Try.pinned (OpenSpec.upto digestTellsSpec)

/-- 'armadalaw12.DigestBlocks', WHERE WHAT IT READS IS OF BULK AT MOST 1048576: true; the input reads as it did. -/
def digestBlocksUptoRow : OpenClaim := { program := "ytkejacgedipoeaa", sum := "1857068b114984cfb4e4fb9d7186cbd6cd746c622c651912b08e3948dd96e44b", func := "armada/armadalaw12.DigestBlocks", spec := "digestBlocks", inPlace := ["internal/abi.NoEscape", "internal/bytealg.MakeNoZero"], apart := false, narrowed := true }
def DigestBlocksUptoSaid : Prop := digestBlocksUptoRow.holds Try.pinned (OpenSpec.upto digestBlocksSpec)

/-- 'armadalaw12.DigestRoots', WHERE WHAT IT READS IS OF BULK AT MOST 1048576: true; the input reads as it did. -/
def digestRootsUptoRow : OpenClaim := { program := "ytkejacgedipoeaa", sum := "1857068b114984cfb4e4fb9d7186cbd6cd746c622c651912b08e3948dd96e44b", func := "armada/armadalaw12.DigestRoots", spec := "digestRoots", inPlace := ["internal/abi.NoEscape", "internal/bytealg.MakeNoZero"], apart := false, narrowed := true }
def DigestRootsUptoSaid : Prop := digestRootsUptoRow.holds Try.pinned (OpenSpec.upto digestRootsSpec)

/-- 'armadalaw12.DigestPads', WHERE WHAT IT READS IS OF BULK AT MOST 1048576: true; the input reads as it did. -/
def digestPadsUptoRow : OpenClaim := { program := "ytkejacgedipoeaa", sum := "1857068b114984cfb4e4fb9d7186cbd6cd746c622c651912b08e3948dd96e44b", func := "armada/armadalaw12.DigestPads", spec := "digestPads", inPlace := ["internal/abi.NoEscape", "internal/bytealg.MakeNoZero"], apart := false, narrowed := true }
def DigestPadsUptoSaid : Prop := digestPadsUptoRow.holds Try.pinned (OpenSpec.upto digestPadsSpec)

/-- 'armadalaw12.DigestHex', WHERE WHAT IT READS IS OF BULK AT MOST 1048576: true; the input reads as it did. -/
def digestHexUptoRow : OpenClaim := { program := "ytkejacgedipoeaa", sum := "1857068b114984cfb4e4fb9d7186cbd6cd746c622c651912b08e3948dd96e44b", func := "armada/armadalaw12.DigestHex", spec := "digestHex", inPlace := ["internal/abi.NoEscape", "internal/bytealg.MakeNoZero"], apart := false, narrowed := true }
def DigestHexUptoSaid : Prop := digestHexUptoRow.holds Try.pinned (OpenSpec.upto digestHexSpec)

end Rows
end Go.Proofs.Ytkejacgedipoeaa
