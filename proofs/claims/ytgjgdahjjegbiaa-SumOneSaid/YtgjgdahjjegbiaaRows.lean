/-
  No cell of these rows narrows 'for every input' (looked for: loops, veiled, ifaces, maps, wideKeys, modest, calm, conditions, laid).
  DERIVED. THE GIVEN ROWS OF THIS SEAT. 5 by the template 'for every input the law returns true; each argument reads behind the call as it read before'; 0 by the template 'total and deterministic' (their statements: YtgjgdahjjegbiaaTotals.lean).
  GIVEN WITH THE SEED: the statements are not yours to turn. If you find one false, say at which input.
  Laid BY PROGRAM, IN A SANDBOX (cutbox-rows.mjs): the forced cells as the released guide's own fill.sh prints them over the translation 44e94cc1daf77f40… (all of the seat's roots in one cut). By AI agents, Wed Nov 11 2026. No macro, syntax, notation, axiom, sorry.
-/
import Derived.Test.YtgjgdahjjegbiaaChecked
import GoSem.Claim
import GoSem.ClaimJoined
import GoSem.ClaimMapViews
import Derived.JoinedTies
import Derived.KernelRfl
namespace Go.Proofs.Ytgjgdahjjegbiaa
/- THE CELL 'sum', in the pinned program and in every row, IS THE sha256 OF THE DUMP (.gsa) THAT YtgjgdahjjegbiaaProg.lean LOADS. Nothing in Lean hashes anything: it is a label: what it is worth is what the hold of that sum in a sandbox is worth. -/
noncomputable def Try.pinned : Pinned := { name := "ytgjgdahjjegbiaa", sum := "44e94cc1daf77f40943198eef4f10d58a146570385c19c24f0e853a3aa858e42", checked := Try.checked }
namespace Rows
def none {H : Type} : Left H := { results := [], args := [] }

/-- 'armadalaw02.SumTells': WHATEVER THE INPUT: true; the input reads as it did. -/
def sumTellsSpec : ChangeSpec := { name := "sumTells", fn := fun _ => fun
  | [d1, d2, d3] => { results := [.lit (.bool true)], args := [d1, d2, d3] }
  | _ => none }
def sumTellsRow : OpenClaim := { program := "ytgjgdahjjegbiaa", sum := "44e94cc1daf77f40943198eef4f10d58a146570385c19c24f0e853a3aa858e42", func := "armada/armadalaw02.SumTells", spec := "sumTells", apart := false }
def SumTellsSaid : Prop := sumTellsRow.holds Try.pinned (OpenSpec.ofChange sumTellsSpec)

/-- ITS FALSE NEIGHBOUR: 'it returns false'. Refute it at one input. -/
def sumTellsWrong : ChangeSpec := { name := "sumTells", fn := fun _ => fun
  | [d1, d2, d3] => { results := [.lit (.bool false)], args := [d1, d2, d3] }
  | _ => none }
def SumTellsWrongFalsely : Prop := sumTellsRow.holds Try.pinned (OpenSpec.ofChange sumTellsWrong)

/-- 'armadalaw02.SumParts': WHATEVER THE INPUT: true; the input reads as it did. -/
def sumPartsSpec : ChangeSpec := { name := "sumParts", fn := fun _ => fun
  | [d1, d2] => { results := [.lit (.bool true)], args := [d1, d2] }
  | _ => none }
def sumPartsRow : OpenClaim := { program := "ytgjgdahjjegbiaa", sum := "44e94cc1daf77f40943198eef4f10d58a146570385c19c24f0e853a3aa858e42", func := "armada/armadalaw02.SumParts", spec := "sumParts", apart := false }
def SumPartsSaid : Prop := sumPartsRow.holds Try.pinned (OpenSpec.ofChange sumPartsSpec)

/-- ITS FALSE NEIGHBOUR: 'it returns false'. Refute it at one input. -/
def sumPartsWrong : ChangeSpec := { name := "sumParts", fn := fun _ => fun
  | [d1, d2] => { results := [.lit (.bool false)], args := [d1, d2] }
  | _ => none }
def SumPartsWrongFalsely : Prop := sumPartsRow.holds Try.pinned (OpenSpec.ofChange sumPartsWrong)

/-- 'armadalaw02.SumOne': WHATEVER THE INPUT: true; the input reads as it did. -/
def sumOneSpec : ChangeSpec := { name := "sumOne", fn := fun _ => fun
  | [d1, d2, d3] => { results := [.lit (.bool true)], args := [d1, d2, d3] }
  | _ => none }
def sumOneRow : OpenClaim := { program := "ytgjgdahjjegbiaa", sum := "44e94cc1daf77f40943198eef4f10d58a146570385c19c24f0e853a3aa858e42", func := "armada/armadalaw02.SumOne", spec := "sumOne", apart := false }
def SumOneSaid : Prop := sumOneRow.holds Try.pinned (OpenSpec.ofChange sumOneSpec)

/-- ITS FALSE NEIGHBOUR: 'it returns false'. Refute it at one input. -/
def sumOneWrong : ChangeSpec := { name := "sumOne", fn := fun _ => fun
  | [d1, d2, d3] => { results := [.lit (.bool false)], args := [d1, d2, d3] }
  | _ => none }
def SumOneWrongFalsely : Prop := sumOneRow.holds Try.pinned (OpenSpec.ofChange sumOneWrong)

/-- 'armadalaw02.SumHalves': WHATEVER THE INPUT: true; the input reads as it did. -/
def sumHalvesSpec : ChangeSpec := { name := "sumHalves", fn := fun _ => fun
  | [d1, d2] => { results := [.lit (.bool true)], args := [d1, d2] }
  | _ => none }
def sumHalvesRow : OpenClaim := { program := "ytgjgdahjjegbiaa", sum := "44e94cc1daf77f40943198eef4f10d58a146570385c19c24f0e853a3aa858e42", func := "armada/armadalaw02.SumHalves", spec := "sumHalves", apart := false }
def SumHalvesSaid : Prop := sumHalvesRow.holds Try.pinned (OpenSpec.ofChange sumHalvesSpec)

/-- ITS FALSE NEIGHBOUR: 'it returns false'. Refute it at one input. -/
def sumHalvesWrong : ChangeSpec := { name := "sumHalves", fn := fun _ => fun
  | [d1, d2] => { results := [.lit (.bool false)], args := [d1, d2] }
  | _ => none }
def SumHalvesWrongFalsely : Prop := sumHalvesRow.holds Try.pinned (OpenSpec.ofChange sumHalvesWrong)

/-- 'armadalaw02.SumJoins': WHATEVER THE INPUT: true; the input reads as it did. -/
def sumJoinsSpec : ChangeSpec := { name := "sumJoins", fn := fun _ => fun
  | [d1, d2, d3] => { results := [.lit (.bool true)], args := [d1, d2, d3] }
  | _ => none }
def sumJoinsRow : OpenClaim := { program := "ytgjgdahjjegbiaa", sum := "44e94cc1daf77f40943198eef4f10d58a146570385c19c24f0e853a3aa858e42", func := "armada/armadalaw02.SumJoins", spec := "sumJoins", apart := false }
def SumJoinsSaid : Prop := sumJoinsRow.holds Try.pinned (OpenSpec.ofChange sumJoinsSpec)

/-- ITS FALSE NEIGHBOUR: 'it returns false'. Refute it at one input. -/
def sumJoinsWrong : ChangeSpec := { name := "sumJoins", fn := fun _ => fun
  | [d1, d2, d3] => { results := [.lit (.bool false)], args := [d1, d2, d3] }
  | _ => none }
def SumJoinsWrongFalsely : Prop := sumJoinsRow.holds Try.pinned (OpenSpec.ofChange sumJoinsWrong)

/- THE SECOND FORM. 'bulk': how many values and letters a reading holds, each counted each time it is reached (what is shared counts as often as it is met; a slice's spare places count too). A statement '..UptoSaid' is the law's where the arguments, and the package variables that the reading takes, are together of bulk at most 1048576: NARROWER than '..Said'. Prove '..Said' where nothing that the law and all that it calls make is longer than what came in: it says more and counts as full. Else prove '..UptoSaid'. A law counts once. -/
mutual
def uptoBulk {H : Type} : DataW H → Nat
  | .lit (.string bytes) => bytes.length + 1
  | .lit _ => 1
  | .nil => 1
  | .ptr d => uptoBulk d + 1
  | .slice elems spare => uptoBulkAll elems + uptoBulkAll spare + 1
  | .agg parts => uptoBulkAll parts + 1
  | .iface _ d => uptoBulk d + 1
  | .map entries => uptoBulkEntries entries + 1
  | .held _ => 1
def uptoBulkAll {H : Type} : List (DataW H) → Nat
  | [] => 0
  | d :: r => uptoBulk d + uptoBulkAll r
def uptoBulkEntries {H : Type} : List (Lit × DataW H) → Nat
  | [] => 0
  | x :: r => uptoBulkEntry x + uptoBulkEntries r
def uptoBulkEntry {H : Type} : Lit × DataW H → Nat
  | (.string bytes, d) => bytes.length + uptoBulk d + 1
  | (_, d) => uptoBulk d + 1
 end
def uptoSmall : (H : Type) → List (DataW H) → Bool := fun _ ds => decide (uptoBulkAll ds ≤ 1048576)
def OpenSpec.upto (s : _root_.Go.ChangeSpec) : _root_.Go.OpenSpec := { _root_.Go.OpenSpec.ofChange s with cond := some uptoSmall }

/-- 'armadalaw02.SumTells', WHERE WHAT IT READS IS OF BULK AT MOST 1048576: true; the input reads as it did. -/
def sumTellsUptoRow : OpenClaim := { program := "ytgjgdahjjegbiaa", sum := "44e94cc1daf77f40943198eef4f10d58a146570385c19c24f0e853a3aa858e42", func := "armada/armadalaw02.SumTells", spec := "sumTells", apart := false, narrowed := true }
def SumTellsUptoSaid : Prop := sumTellsUptoRow.holds Try.pinned (OpenSpec.upto sumTellsSpec)

/-- 'armadalaw02.SumParts', WHERE WHAT IT READS IS OF BULK AT MOST 1048576: true; the input reads as it did. -/
def sumPartsUptoRow : OpenClaim := { program := "ytgjgdahjjegbiaa", sum := "44e94cc1daf77f40943198eef4f10d58a146570385c19c24f0e853a3aa858e42", func := "armada/armadalaw02.SumParts", spec := "sumParts", apart := false, narrowed := true }
def SumPartsUptoSaid : Prop := sumPartsUptoRow.holds Try.pinned (OpenSpec.upto sumPartsSpec)

/-- 'armadalaw02.SumOne', WHERE WHAT IT READS IS OF BULK AT MOST 1048576: true; the input reads as it did. -/
def sumOneUptoRow : OpenClaim := { program := "ytgjgdahjjegbiaa", sum := "44e94cc1daf77f40943198eef4f10d58a146570385c19c24f0e853a3aa858e42", func := "armada/armadalaw02.SumOne", spec := "sumOne", apart := false, narrowed := true }
def SumOneUptoSaid : Prop := sumOneUptoRow.holds Try.pinned (OpenSpec.upto sumOneSpec)

/-- 'armadalaw02.SumHalves', WHERE WHAT IT READS IS OF BULK AT MOST 1048576: true; the input reads as it did. -/
def sumHalvesUptoRow : OpenClaim := { program := "ytgjgdahjjegbiaa", sum := "44e94cc1daf77f40943198eef4f10d58a146570385c19c24f0e853a3aa858e42", func := "armada/armadalaw02.SumHalves", spec := "sumHalves", apart := false, narrowed := true }
def SumHalvesUptoSaid : Prop := sumHalvesUptoRow.holds Try.pinned (OpenSpec.upto sumHalvesSpec)

/-- 'armadalaw02.SumJoins', WHERE WHAT IT READS IS OF BULK AT MOST 1048576: true; the input reads as it did. -/
def sumJoinsUptoRow : OpenClaim := { program := "ytgjgdahjjegbiaa", sum := "44e94cc1daf77f40943198eef4f10d58a146570385c19c24f0e853a3aa858e42", func := "armada/armadalaw02.SumJoins", spec := "sumJoins", apart := false, narrowed := true }
def SumJoinsUptoSaid : Prop := sumJoinsUptoRow.holds Try.pinned (OpenSpec.upto sumJoinsSpec)

end Rows
end Go.Proofs.Ytgjgdahjjegbiaa
