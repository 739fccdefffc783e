/-
  No cell of these rows narrows 'for every input' (looked for: loops, veiled, ifaces, maps, wideKeys, modest, calm, conditions, laid).
  DERIVED. THE GIVEN ROWS OF THIS SEAT. 11 by the template 'for every input the law returns true; each argument reads behind the call as it read before'; 0 by the template 'total and deterministic' (their statements: YtphdcamihkgdiaaTotals.lean).
  GIVEN WITH THE SEED: the statements are not yours to turn. If you find one false, say at which input.
  Laid BY PROGRAM, IN A SANDBOX (cutbox-rows.mjs): the forced cells as the released guide's own fill.sh prints them over the translation 0a058b4c5fcbe68e… (all of the seat's roots in one cut). By AI agents, Wed Nov 11 2026. No macro, syntax, notation, axiom, sorry.
-/
import Derived.Test.YtphdcamihkgdiaaChecked
import GoSem.Claim
import GoSem.ClaimJoined
import GoSem.ClaimMapViews
import Derived.JoinedTies
import Derived.KernelRfl
namespace Go.Proofs.Ytphdcamihkgdiaa
/- THE CELL 'sum', in the pinned program and in every row, IS THE sha256 OF THE DUMP (.gsa) THAT YtphdcamihkgdiaaProg.lean LOADS. Nothing in Lean hashes anything: it is a label: what it is worth is what the hold of that sum in a sandbox is worth. -/
noncomputable def Try.pinned : Pinned := { name := "ytphdcamihkgdiaa", sum := "0a058b4c5fcbe68e9bdfcb63370cfca81471e5a21890403730b9e109ce450ceb", checked := Try.checked }
namespace Rows
def none {H : Type} : Left H := { results := [], args := [] }

/-- 'laws.FnExactEqualCircuits': WHATEVER THE INPUT: true; the input reads as it did. -/
def fnExactEqualCircuitsSpec : ChangeSpec := { name := "fnExactEqualCircuits", fn := fun _ => fun
  | [d1, d2] => { results := [.lit (.bool true)], args := [d1, d2] }
  | _ => none }
def fnExactEqualCircuitsRow : OpenClaim := { program := "ytphdcamihkgdiaa", sum := "0a058b4c5fcbe68e9bdfcb63370cfca81471e5a21890403730b9e109ce450ceb", func := "loop.example/g00864/laws.FnExactEqualCircuits", spec := "fnExactEqualCircuits", apart := false }
def FnExactEqualCircuitsSaid : Prop := fnExactEqualCircuitsRow.holds Try.pinned (OpenSpec.ofChange fnExactEqualCircuitsSpec)

/-- ITS FALSE NEIGHBOUR: 'it returns false'. Refute it at one input. -/
def fnExactEqualCircuitsWrong : ChangeSpec := { name := "fnExactEqualCircuits", fn := fun _ => fun
  | [d1, d2] => { results := [.lit (.bool false)], args := [d1, d2] }
  | _ => none }
def FnExactEqualCircuitsWrongFalsely : Prop := fnExactEqualCircuitsRow.holds Try.pinned (OpenSpec.ofChange fnExactEqualCircuitsWrong)

/-- 'laws.FnExactIsValidCircuit': WHATEVER THE INPUT: true; the input reads as it did. -/
def fnExactIsValidCircuitSpec : ChangeSpec := { name := "fnExactIsValidCircuit", fn := fun _ => fun
  | [d] => { results := [.lit (.bool true)], args := [d] }
  | _ => none }
def fnExactIsValidCircuitRow : OpenClaim := { program := "ytphdcamihkgdiaa", sum := "0a058b4c5fcbe68e9bdfcb63370cfca81471e5a21890403730b9e109ce450ceb", func := "loop.example/g00864/laws.FnExactIsValidCircuit", spec := "fnExactIsValidCircuit", unfollowed := true, recurses := true, apart := false }
def FnExactIsValidCircuitSaid : Prop := fnExactIsValidCircuitRow.holds Try.pinned (OpenSpec.ofChange fnExactIsValidCircuitSpec)

/-- ITS FALSE NEIGHBOUR: 'it returns false'. Refute it at one input. -/
def fnExactIsValidCircuitWrong : ChangeSpec := { name := "fnExactIsValidCircuit", fn := fun _ => fun
  | [d] => { results := [.lit (.bool false)], args := [d] }
  | _ => none }
def FnExactIsValidCircuitWrongFalsely : Prop := fnExactIsValidCircuitRow.holds Try.pinned (OpenSpec.ofChange fnExactIsValidCircuitWrong)

/-- 'laws.FnExactCountTwo': WHATEVER THE INPUT: true; the input reads as it did. -/
def fnExactCountTwoSpec : ChangeSpec := { name := "fnExactCountTwo", fn := fun _ => fun
  | [d] => { results := [.lit (.bool true)], args := [d] }
  | _ => none }
def fnExactCountTwoRow : OpenClaim := { program := "ytphdcamihkgdiaa", sum := "0a058b4c5fcbe68e9bdfcb63370cfca81471e5a21890403730b9e109ce450ceb", func := "loop.example/g00864/laws.FnExactCountTwo", spec := "fnExactCountTwo", unfollowed := true, recurses := true, apart := false }
def FnExactCountTwoSaid : Prop := fnExactCountTwoRow.holds Try.pinned (OpenSpec.ofChange fnExactCountTwoSpec)

/-- ITS FALSE NEIGHBOUR: 'it returns false'. Refute it at one input. -/
def fnExactCountTwoWrong : ChangeSpec := { name := "fnExactCountTwo", fn := fun _ => fun
  | [d] => { results := [.lit (.bool false)], args := [d] }
  | _ => none }
def FnExactCountTwoWrongFalsely : Prop := fnExactCountTwoRow.holds Try.pinned (OpenSpec.ofChange fnExactCountTwoWrong)

/-- 'laws.FnExactCountT': WHATEVER THE INPUT: true; the input reads as it did. -/
def fnExactCountTSpec : ChangeSpec := { name := "fnExactCountT", fn := fun _ => fun
  | [d] => { results := [.lit (.bool true)], args := [d] }
  | _ => none }
def fnExactCountTRow : OpenClaim := { program := "ytphdcamihkgdiaa", sum := "0a058b4c5fcbe68e9bdfcb63370cfca81471e5a21890403730b9e109ce450ceb", func := "loop.example/g00864/laws.FnExactCountT", spec := "fnExactCountT", unfollowed := true, recurses := true, apart := false }
def FnExactCountTSaid : Prop := fnExactCountTRow.holds Try.pinned (OpenSpec.ofChange fnExactCountTSpec)

/-- ITS FALSE NEIGHBOUR: 'it returns false'. Refute it at one input. -/
def fnExactCountTWrong : ChangeSpec := { name := "fnExactCountT", fn := fun _ => fun
  | [d] => { results := [.lit (.bool false)], args := [d] }
  | _ => none }
def FnExactCountTWrongFalsely : Prop := fnExactCountTRow.holds Try.pinned (OpenSpec.ofChange fnExactCountTWrong)

/-- 'laws.FnExactIsClifford': WHATEVER THE INPUT: true; the input reads as it did. -/
def fnExactIsCliffordSpec : ChangeSpec := { name := "fnExactIsClifford", fn := fun _ => fun
  | [d] => { results := [.lit (.bool true)], args := [d] }
  | _ => none }
def fnExactIsCliffordRow : OpenClaim := { program := "ytphdcamihkgdiaa", sum := "0a058b4c5fcbe68e9bdfcb63370cfca81471e5a21890403730b9e109ce450ceb", func := "loop.example/g00864/laws.FnExactIsClifford", spec := "fnExactIsClifford", unfollowed := true, recurses := true, apart := false }
def FnExactIsCliffordSaid : Prop := fnExactIsCliffordRow.holds Try.pinned (OpenSpec.ofChange fnExactIsCliffordSpec)

/-- ITS FALSE NEIGHBOUR: 'it returns false'. Refute it at one input. -/
def fnExactIsCliffordWrong : ChangeSpec := { name := "fnExactIsClifford", fn := fun _ => fun
  | [d] => { results := [.lit (.bool false)], args := [d] }
  | _ => none }
def FnExactIsCliffordWrongFalsely : Prop := fnExactIsCliffordRow.holds Try.pinned (OpenSpec.ofChange fnExactIsCliffordWrong)

/-- 'laws.FnExactConcat': WHATEVER THE INPUT: true; the input reads as it did. -/
def fnExactConcatSpec : ChangeSpec := { name := "fnExactConcat", fn := fun _ => fun
  | [d1, d2] => { results := [.lit (.bool true)], args := [d1, d2] }
  | _ => none }
def fnExactConcatRow : OpenClaim := { program := "ytphdcamihkgdiaa", sum := "0a058b4c5fcbe68e9bdfcb63370cfca81471e5a21890403730b9e109ce450ceb", func := "loop.example/g00864/laws.FnExactConcat", spec := "fnExactConcat", unfollowed := true, recurses := true, apart := false }
def FnExactConcatSaid : Prop := fnExactConcatRow.holds Try.pinned (OpenSpec.ofChange fnExactConcatSpec)

/-- ITS FALSE NEIGHBOUR: 'it returns false'. Refute it at one input. -/
def fnExactConcatWrong : ChangeSpec := { name := "fnExactConcat", fn := fun _ => fun
  | [d1, d2] => { results := [.lit (.bool false)], args := [d1, d2] }
  | _ => none }
def FnExactConcatWrongFalsely : Prop := fnExactConcatRow.holds Try.pinned (OpenSpec.ofChange fnExactConcatWrong)

/-- 'laws.FnExactInverse': WHATEVER THE INPUT: true; the input reads as it did. -/
def fnExactInverseSpec : ChangeSpec := { name := "fnExactInverse", fn := fun _ => fun
  | [d] => { results := [.lit (.bool true)], args := [d] }
  | _ => none }
def fnExactInverseRow : OpenClaim := { program := "ytphdcamihkgdiaa", sum := "0a058b4c5fcbe68e9bdfcb63370cfca81471e5a21890403730b9e109ce450ceb", func := "loop.example/g00864/laws.FnExactInverse", spec := "fnExactInverse", unfollowed := true, recurses := true, apart := false }
def FnExactInverseSaid : Prop := fnExactInverseRow.holds Try.pinned (OpenSpec.ofChange fnExactInverseSpec)

/-- ITS FALSE NEIGHBOUR: 'it returns false'. Refute it at one input. -/
def fnExactInverseWrong : ChangeSpec := { name := "fnExactInverse", fn := fun _ => fun
  | [d] => { results := [.lit (.bool false)], args := [d] }
  | _ => none }
def FnExactInverseWrongFalsely : Prop := fnExactInverseRow.holds Try.pinned (OpenSpec.ofChange fnExactInverseWrong)

/-- 'laws.FnExactMapQubits': WHATEVER THE INPUT: true; the input reads as it did. -/
def fnExactMapQubitsSpec : ChangeSpec := { name := "fnExactMapQubits", fn := fun _ => fun
  | [d1, d2, d3] => { results := [.lit (.bool true)], args := [d1, d2, d3] }
  | _ => none }
def fnExactMapQubitsRow : OpenClaim := { program := "ytphdcamihkgdiaa", sum := "0a058b4c5fcbe68e9bdfcb63370cfca81471e5a21890403730b9e109ce450ceb", func := "loop.example/g00864/laws.FnExactMapQubits", spec := "fnExactMapQubits", unfollowed := true, recurses := true, apart := false }
def FnExactMapQubitsSaid : Prop := fnExactMapQubitsRow.holds Try.pinned (OpenSpec.ofChange fnExactMapQubitsSpec)

/-- ITS FALSE NEIGHBOUR: 'it returns false'. Refute it at one input. -/
def fnExactMapQubitsWrong : ChangeSpec := { name := "fnExactMapQubits", fn := fun _ => fun
  | [d1, d2, d3] => { results := [.lit (.bool false)], args := [d1, d2, d3] }
  | _ => none }
def FnExactMapQubitsWrongFalsely : Prop := fnExactMapQubitsRow.holds Try.pinned (OpenSpec.ofChange fnExactMapQubitsWrong)

/-- 'laws.FnExactControlledOf': WHATEVER THE INPUT: true; the input reads as it did. -/
def fnExactControlledOfSpec : ChangeSpec := { name := "fnExactControlledOf", fn := fun _ => fun
  | [d] => { results := [.lit (.bool true)], args := [d] }
  | _ => none }
def fnExactControlledOfRow : OpenClaim := { program := "ytphdcamihkgdiaa", sum := "0a058b4c5fcbe68e9bdfcb63370cfca81471e5a21890403730b9e109ce450ceb", func := "loop.example/g00864/laws.FnExactControlledOf", spec := "fnExactControlledOf", unfollowed := true, recurses := true, apart := false }
def FnExactControlledOfSaid : Prop := fnExactControlledOfRow.holds Try.pinned (OpenSpec.ofChange fnExactControlledOfSpec)

/-- ITS FALSE NEIGHBOUR: 'it returns false'. Refute it at one input. -/
def fnExactControlledOfWrong : ChangeSpec := { name := "fnExactControlledOf", fn := fun _ => fun
  | [d] => { results := [.lit (.bool false)], args := [d] }
  | _ => none }
def FnExactControlledOfWrongFalsely : Prop := fnExactControlledOfRow.holds Try.pinned (OpenSpec.ofChange fnExactControlledOfWrong)

/-- 'laws.FnExactGateMatrix': WHATEVER THE INPUT: true; the input reads as it did. -/
def fnExactGateMatrixSpec : ChangeSpec := { name := "fnExactGateMatrix", fn := fun _ => fun
  | [d1, d2] => { results := [.lit (.bool true)], args := [d1, d2] }
  | _ => none }
def fnExactGateMatrixRow : OpenClaim := { program := "ytphdcamihkgdiaa", sum := "0a058b4c5fcbe68e9bdfcb63370cfca81471e5a21890403730b9e109ce450ceb", func := "loop.example/g00864/laws.FnExactGateMatrix", spec := "fnExactGateMatrix", unfollowed := true, recurses := true, apart := false }
def FnExactGateMatrixSaid : Prop := fnExactGateMatrixRow.holds Try.pinned (OpenSpec.ofChange fnExactGateMatrixSpec)

/-- ITS FALSE NEIGHBOUR: 'it returns false'. Refute it at one input. -/
def fnExactGateMatrixWrong : ChangeSpec := { name := "fnExactGateMatrix", fn := fun _ => fun
  | [d1, d2] => { results := [.lit (.bool false)], args := [d1, d2] }
  | _ => none }
def FnExactGateMatrixWrongFalsely : Prop := fnExactGateMatrixRow.holds Try.pinned (OpenSpec.ofChange fnExactGateMatrixWrong)

/-- 'laws.FnCircuits': WHATEVER THE INPUT: true; the input reads as it did. -/
def fnCircuitsSpec : ChangeSpec := { name := "fnCircuits", fn := fun _ => fun
  | [d1, d2] => { results := [.lit (.bool true)], args := [d1, d2] }
  | _ => none }
def fnCircuitsRow : OpenClaim := { program := "ytphdcamihkgdiaa", sum := "0a058b4c5fcbe68e9bdfcb63370cfca81471e5a21890403730b9e109ce450ceb", func := "loop.example/g00864/laws.FnCircuits", spec := "fnCircuits", unfollowed := true, recurses := true, apart := false }
def FnCircuitsSaid : Prop := fnCircuitsRow.holds Try.pinned (OpenSpec.ofChange fnCircuitsSpec)

/-- ITS FALSE NEIGHBOUR: 'it returns false'. Refute it at one input. -/
def fnCircuitsWrong : ChangeSpec := { name := "fnCircuits", fn := fun _ => fun
  | [d1, d2] => { results := [.lit (.bool false)], args := [d1, d2] }
  | _ => none }
def FnCircuitsWrongFalsely : Prop := fnCircuitsRow.holds Try.pinned (OpenSpec.ofChange fnCircuitsWrong)

/- THE SECOND FORM. 'bulk': how many values and letters a reading holds, each counted each time it is reached (what is shared counts as often as it is met; a slice's spare places count too). A statement '..UptoSaid' is the law's where the arguments, and the package variables that the reading takes, are together of bulk at most 1048576: NARROWER than '..Said'. Prove '..Said' where nothing that the law and all that it calls make is longer than what came in: it says more and counts as full. Else prove '..UptoSaid'. A law counts once. -/
mutual
def uptoBulk {H : Type} : DataW H → Nat
  | .lit (.string bytes) => bytes.length + 1
  | .lit _ => 1
  | .nil => 1
  | .ptr d => uptoBulk d + 1
  | .slice elems spare => uptoBulkAll elems + uptoBulkAll spare + 1
  | .agg parts => uptoBulkAll parts + 1
  | .iface _ d => uptoBulk d + 1
  | .map entries => uptoBulkEntries entries + 1
  | .held _ => 1
def uptoBulkAll {H : Type} : List (DataW H) → Nat
  | [] => 0
  | d :: r => uptoBulk d + uptoBulkAll r
def uptoBulkEntries {H : Type} : List (Lit × DataW H) → Nat
  | [] => 0
  | x :: r => uptoBulkEntry x + uptoBulkEntries r
def uptoBulkEntry {H : Type} : Lit × DataW H → Nat
  | (.string bytes, d) => bytes.length + uptoBulk d + 1
  | (_, d) => uptoBulk d + 1
 end
def uptoSmall : (H : Type) → List (DataW H) → Bool := fun _ ds => decide (uptoBulkAll ds ≤ 1048576)
def OpenSpec.upto (s : _root_.Go.ChangeSpec) : _root_.Go.OpenSpec := { _root_.Go.OpenSpec.ofChange s with cond := some uptoSmall }

/-- 'laws.FnExactEqualCircuits', WHERE WHAT IT READS IS OF BULK AT MOST 1048576: true; the input reads as it did. -/
def fnExactEqualCircuitsUptoRow : OpenClaim := { program := "ytphdcamihkgdiaa", sum := "0a058b4c5fcbe68e9bdfcb63370cfca81471e5a21890403730b9e109ce450ceb", func := "loop.example/g00864/laws.FnExactEqualCircuits", spec := "fnExactEqualCircuits", apart := false, narrowed := true }
def FnExactEqualCircuitsUptoSaid : Prop := fnExactEqualCircuitsUptoRow.holds Try.pinned (OpenSpec.upto fnExactEqualCircuitsSpec)

/-- 'laws.FnExactIsValidCircuit', WHERE WHAT IT READS IS OF BULK AT MOST 1048576: true; the input reads as it did. -/
def fnExactIsValidCircuitUptoRow : OpenClaim := { program := "ytphdcamihkgdiaa", sum := "0a058b4c5fcbe68e9bdfcb63370cfca81471e5a21890403730b9e109ce450ceb", func := "loop.example/g00864/laws.FnExactIsValidCircuit", spec := "fnExactIsValidCircuit", unfollowed := true, recurses := true, apart := false, narrowed := true }
def FnExactIsValidCircuitUptoSaid : Prop := fnExactIsValidCircuitUptoRow.holds Try.pinned (OpenSpec.upto fnExactIsValidCircuitSpec)

/-- 'laws.FnExactCountTwo', WHERE WHAT IT READS IS OF BULK AT MOST 1048576: true; the input reads as it did. -/
def fnExactCountTwoUptoRow : OpenClaim := { program := "ytphdcamihkgdiaa", sum := "0a058b4c5fcbe68e9bdfcb63370cfca81471e5a21890403730b9e109ce450ceb", func := "loop.example/g00864/laws.FnExactCountTwo", spec := "fnExactCountTwo", unfollowed := true, recurses := true, apart := false, narrowed := true }
def FnExactCountTwoUptoSaid : Prop := fnExactCountTwoUptoRow.holds Try.pinned (OpenSpec.upto fnExactCountTwoSpec)

/-- 'laws.FnExactCountT', WHERE WHAT IT READS IS OF BULK AT MOST 1048576: true; the input reads as it did. -/
def fnExactCountTUptoRow : OpenClaim := { program := "ytphdcamihkgdiaa", sum := "0a058b4c5fcbe68e9bdfcb63370cfca81471e5a21890403730b9e109ce450ceb", func := "loop.example/g00864/laws.FnExactCountT", spec := "fnExactCountT", unfollowed := true, recurses := true, apart := false, narrowed := true }
def FnExactCountTUptoSaid : Prop := fnExactCountTUptoRow.holds Try.pinned (OpenSpec.upto fnExactCountTSpec)

/-- 'laws.FnExactIsClifford', WHERE WHAT IT READS IS OF BULK AT MOST 1048576: true; the input reads as it did. -/
def fnExactIsCliffordUptoRow : OpenClaim := { program := "ytphdcamihkgdiaa", sum := "0a058b4c5fcbe68e9bdfcb63370cfca81471e5a21890403730b9e109ce450ceb", func := "loop.example/g00864/laws.FnExactIsClifford", spec := "fnExactIsClifford", unfollowed := true, recurses := true, apart := false, narrowed := true }
def FnExactIsCliffordUptoSaid : Prop := fnExactIsCliffordUptoRow.holds Try.pinned (OpenSpec.upto fnExactIsCliffordSpec)

/-- 'laws.FnExactConcat', WHERE WHAT IT READS IS OF BULK AT MOST 1048576: true; the input reads as it did. -/
def fnExactConcatUptoRow : OpenClaim := { program := "ytphdcamihkgdiaa", sum := "0a058b4c5fcbe68e9bdfcb63370cfca81471e5a21890403730b9e109ce450ceb", func := "loop.example/g00864/laws.FnExactConcat", spec := "fnExactConcat", unfollowed := true, recurses := true, apart := false, narrowed := true }
def FnExactConcatUptoSaid : Prop := fnExactConcatUptoRow.holds Try.pinned (OpenSpec.upto fnExactConcatSpec)

/-- 'laws.FnExactInverse', WHERE WHAT IT READS IS OF BULK AT MOST 1048576: true; the input reads as it did. -/
def fnExactInverseUptoRow : OpenClaim := { program := "ytphdcamihkgdiaa", sum := "0a058b4c5fcbe68e9bdfcb63370cfca81471e5a21890403730b9e109ce450ceb", func := "loop.example/g00864/laws.FnExactInverse", spec := "fnExactInverse", unfollowed := true, recurses := true, apart := false, narrowed := true }
def FnExactInverseUptoSaid : Prop := fnExactInverseUptoRow.holds Try.pinned (OpenSpec.upto fnExactInverseSpec)

/-- 'laws.FnExactMapQubits', WHERE WHAT IT READS IS OF BULK AT MOST 1048576: true; the input reads as it did. -/
def fnExactMapQubitsUptoRow : OpenClaim := { program := "ytphdcamihkgdiaa", sum := "0a058b4c5fcbe68e9bdfcb63370cfca81471e5a21890403730b9e109ce450ceb", func := "loop.example/g00864/laws.FnExactMapQubits", spec := "fnExactMapQubits", unfollowed := true, recurses := true, apart := false, narrowed := true }
def FnExactMapQubitsUptoSaid : Prop := fnExactMapQubitsUptoRow.holds Try.pinned (OpenSpec.upto fnExactMapQubitsSpec)

/-- 'laws.FnExactControlledOf', WHERE WHAT IT READS IS OF BULK AT MOST 1048576: true; the input reads as it did. -/
def fnExactControlledOfUptoRow : OpenClaim := { program := "ytphdcamihkgdiaa", sum := "0a058b4c5fcbe68e9bdfcb63370cfca81471e5a21890403730b9e109ce450ceb", func := "loop.example/g00864/laws.FnExactControlledOf", spec := "fnExactControlledOf", unfollowed := true, recurses := true, apart := false, narrowed := true }
def FnExactControlledOfUptoSaid : Prop := fnExactControlledOfUptoRow.holds Try.pinned (OpenSpec.upto fnExactControlledOfSpec)

/-- 'laws.FnExactGateMatrix', WHERE WHAT IT READS IS OF BULK AT MOST 1048576: true; the input reads as it did. -/
def fnExactGateMatrixUptoRow : OpenClaim := { program := "ytphdcamihkgdiaa", sum := "0a058b4c5fcbe68e9bdfcb63370cfca81471e5a21890403730b9e109ce450ceb", func := "loop.example/g00864/laws.FnExactGateMatrix", spec := "fnExactGateMatrix", unfollowed := true, recurses := true, apart := false, narrowed := true }
def FnExactGateMatrixUptoSaid : Prop := fnExactGateMatrixUptoRow.holds Try.pinned (OpenSpec.upto fnExactGateMatrixSpec)

/-- 'laws.FnCircuits', WHERE WHAT IT READS IS OF BULK AT MOST 1048576: true; the input reads as it did. -/
def fnCircuitsUptoRow : OpenClaim := { program := "ytphdcamihkgdiaa", sum := "0a058b4c5fcbe68e9bdfcb63370cfca81471e5a21890403730b9e109ce450ceb", func := "loop.example/g00864/laws.FnCircuits", spec := "fnCircuits", unfollowed := true, recurses := true, apart := false, narrowed := true }
def FnCircuitsUptoSaid : Prop := fnCircuitsUptoRow.holds Try.pinned (OpenSpec.upto fnCircuitsSpec)

end Rows
end Go.Proofs.Ytphdcamihkgdiaa
