/-
  No cell of these rows narrows 'for every input' (looked for: loops, veiled, ifaces, maps, wideKeys, modest, calm, conditions, laid).
  DERIVED. THE GIVEN ROWS OF THIS SEAT. 12 by the template 'for every input the law returns true; each argument reads behind the call as it read before'; 0 by the template 'total and deterministic' (their statements: YtogafcnaombpaaaTotals.lean).
  GIVEN WITH THE SEED: the statements are not yours to turn. If you find one false, say at which input.
  Laid BY PROGRAM, IN A SANDBOX (cutbox-rows.mjs): the forced cells as the released guide's own fill.sh prints them over the translation 6e1e6d12d0adc917… (all of the seat's roots in one cut). By AI agents, Wed Nov 11 2026. No macro, syntax, notation, axiom, sorry.
-/
import Derived.Test.YtogafcnaombpaaaChecked
import GoSem.Claim
import GoSem.ClaimJoined
import GoSem.ClaimMapViews
import Derived.JoinedTies
import Derived.KernelRfl
namespace Go.Proofs.Ytogafcnaombpaaa
/- THE CELL 'sum', in the pinned program and in every row, IS THE sha256 OF THE DUMP (.gsa) THAT YtogafcnaombpaaaProg.lean LOADS. Nothing in Lean hashes anything: it is a label: what it is worth is what the hold of that sum in a sandbox is worth. -/
noncomputable def Try.pinned : Pinned := { name := "ytogafcnaombpaaa", sum := "6e1e6d12d0adc91703f8c87eb447f1113dcd4ebd1ae7f0c0ac49fe94bbbf1716", checked := Try.checked }
namespace Rows
def none {H : Type} : Left H := { results := [], args := [] }

/-- 'laws.FnExactEqualMatrices': WHATEVER THE INPUT: true; the input reads as it did. -/
def fnExactEqualMatricesSpec : ChangeSpec := { name := "fnExactEqualMatrices", fn := fun _ => fun
  | [d1, d2] => { results := [.lit (.bool true)], args := [d1, d2] }
  | _ => none }
def fnExactEqualMatricesRow : OpenClaim := { program := "ytogafcnaombpaaa", sum := "6e1e6d12d0adc91703f8c87eb447f1113dcd4ebd1ae7f0c0ac49fe94bbbf1716", func := "loop.example/g00864/laws.FnExactEqualMatrices", spec := "fnExactEqualMatrices", apart := false }
def FnExactEqualMatricesSaid : Prop := fnExactEqualMatricesRow.holds Try.pinned (OpenSpec.ofChange fnExactEqualMatricesSpec)

/-- ITS FALSE NEIGHBOUR: 'it returns false'. Refute it at one input. -/
def fnExactEqualMatricesWrong : ChangeSpec := { name := "fnExactEqualMatrices", fn := fun _ => fun
  | [d1, d2] => { results := [.lit (.bool false)], args := [d1, d2] }
  | _ => none }
def FnExactEqualMatricesWrongFalsely : Prop := fnExactEqualMatricesRow.holds Try.pinned (OpenSpec.ofChange fnExactEqualMatricesWrong)

/-- 'laws.FnExactDivRing': WHATEVER THE INPUT: true; the input reads as it did. -/
def fnExactDivRingSpec : ChangeSpec := { name := "fnExactDivRing", fn := fun _ => fun
  | [d1, d2] => { results := [.lit (.bool true)], args := [d1, d2] }
  | _ => none }
def fnExactDivRingRow : OpenClaim := { program := "ytogafcnaombpaaa", sum := "6e1e6d12d0adc91703f8c87eb447f1113dcd4ebd1ae7f0c0ac49fe94bbbf1716", func := "loop.example/g00864/laws.FnExactDivRing", spec := "fnExactDivRing", apart := false }
def FnExactDivRingSaid : Prop := fnExactDivRingRow.holds Try.pinned (OpenSpec.ofChange fnExactDivRingSpec)

/-- ITS FALSE NEIGHBOUR: 'it returns false'. Refute it at one input. -/
def fnExactDivRingWrong : ChangeSpec := { name := "fnExactDivRing", fn := fun _ => fun
  | [d1, d2] => { results := [.lit (.bool false)], args := [d1, d2] }
  | _ => none }
def FnExactDivRingWrongFalsely : Prop := fnExactDivRingRow.holds Try.pinned (OpenSpec.ofChange fnExactDivRingWrong)

/-- 'laws.FnExactIsValidMatrix': WHATEVER THE INPUT: true; the input reads as it did. -/
def fnExactIsValidMatrixSpec : ChangeSpec := { name := "fnExactIsValidMatrix", fn := fun _ => fun
  | [d] => { results := [.lit (.bool true)], args := [d] }
  | _ => none }
def fnExactIsValidMatrixRow : OpenClaim := { program := "ytogafcnaombpaaa", sum := "6e1e6d12d0adc91703f8c87eb447f1113dcd4ebd1ae7f0c0ac49fe94bbbf1716", func := "loop.example/g00864/laws.FnExactIsValidMatrix", spec := "fnExactIsValidMatrix", unfollowed := true, recurses := true, apart := false }
def FnExactIsValidMatrixSaid : Prop := fnExactIsValidMatrixRow.holds Try.pinned (OpenSpec.ofChange fnExactIsValidMatrixSpec)

/-- ITS FALSE NEIGHBOUR: 'it returns false'. Refute it at one input. -/
def fnExactIsValidMatrixWrong : ChangeSpec := { name := "fnExactIsValidMatrix", fn := fun _ => fun
  | [d] => { results := [.lit (.bool false)], args := [d] }
  | _ => none }
def FnExactIsValidMatrixWrongFalsely : Prop := fnExactIsValidMatrixRow.holds Try.pinned (OpenSpec.ofChange fnExactIsValidMatrixWrong)

/-- 'laws.FnExactMulDyadic': WHATEVER THE INPUT: true; the input reads as it did. -/
def fnExactMulDyadicSpec : ChangeSpec := { name := "fnExactMulDyadic", fn := fun _ => fun
  | [d1, d2] => { results := [.lit (.bool true)], args := [d1, d2] }
  | _ => none }
def fnExactMulDyadicRow : OpenClaim := { program := "ytogafcnaombpaaa", sum := "6e1e6d12d0adc91703f8c87eb447f1113dcd4ebd1ae7f0c0ac49fe94bbbf1716", func := "loop.example/g00864/laws.FnExactMulDyadic", spec := "fnExactMulDyadic", apart := false }
def FnExactMulDyadicSaid : Prop := fnExactMulDyadicRow.holds Try.pinned (OpenSpec.ofChange fnExactMulDyadicSpec)

/-- ITS FALSE NEIGHBOUR: 'it returns false'. Refute it at one input. -/
def fnExactMulDyadicWrong : ChangeSpec := { name := "fnExactMulDyadic", fn := fun _ => fun
  | [d1, d2] => { results := [.lit (.bool false)], args := [d1, d2] }
  | _ => none }
def FnExactMulDyadicWrongFalsely : Prop := fnExactMulDyadicRow.holds Try.pinned (OpenSpec.ofChange fnExactMulDyadicWrong)

/-- 'laws.FnExactIdentityMatrix': WHATEVER THE INPUT: true; the input reads as it did. -/
def fnExactIdentityMatrixSpec : ChangeSpec := { name := "fnExactIdentityMatrix", fn := fun _ => fun
  | [d] => { results := [.lit (.bool true)], args := [d] }
  | _ => none }
def fnExactIdentityMatrixRow : OpenClaim := { program := "ytogafcnaombpaaa", sum := "6e1e6d12d0adc91703f8c87eb447f1113dcd4ebd1ae7f0c0ac49fe94bbbf1716", func := "loop.example/g00864/laws.FnExactIdentityMatrix", spec := "fnExactIdentityMatrix", unfollowed := true, recurses := true, apart := false }
def FnExactIdentityMatrixSaid : Prop := fnExactIdentityMatrixRow.holds Try.pinned (OpenSpec.ofChange fnExactIdentityMatrixSpec)

/-- ITS FALSE NEIGHBOUR: 'it returns false'. Refute it at one input. -/
def fnExactIdentityMatrixWrong : ChangeSpec := { name := "fnExactIdentityMatrix", fn := fun _ => fun
  | [d] => { results := [.lit (.bool false)], args := [d] }
  | _ => none }
def FnExactIdentityMatrixWrongFalsely : Prop := fnExactIdentityMatrixRow.holds Try.pinned (OpenSpec.ofChange fnExactIdentityMatrixWrong)

/-- 'laws.FnExactNormSquare': WHATEVER THE INPUT: true; the input reads as it did. -/
def fnExactNormSquareSpec : ChangeSpec := { name := "fnExactNormSquare", fn := fun _ => fun
  | [d] => { results := [.lit (.bool true)], args := [d] }
  | _ => none }
def fnExactNormSquareRow : OpenClaim := { program := "ytogafcnaombpaaa", sum := "6e1e6d12d0adc91703f8c87eb447f1113dcd4ebd1ae7f0c0ac49fe94bbbf1716", func := "loop.example/g00864/laws.FnExactNormSquare", spec := "fnExactNormSquare", apart := false }
def FnExactNormSquareSaid : Prop := fnExactNormSquareRow.holds Try.pinned (OpenSpec.ofChange fnExactNormSquareSpec)

/-- ITS FALSE NEIGHBOUR: 'it returns false'. Refute it at one input. -/
def fnExactNormSquareWrong : ChangeSpec := { name := "fnExactNormSquare", fn := fun _ => fun
  | [d] => { results := [.lit (.bool false)], args := [d] }
  | _ => none }
def FnExactNormSquareWrongFalsely : Prop := fnExactNormSquareRow.holds Try.pinned (OpenSpec.ofChange fnExactNormSquareWrong)

/-- 'laws.FnExactLeastExp': WHATEVER THE INPUT: true; the input reads as it did. -/
def fnExactLeastExpSpec : ChangeSpec := { name := "fnExactLeastExp", fn := fun _ => fun
  | [d] => { results := [.lit (.bool true)], args := [d] }
  | _ => none }
def fnExactLeastExpRow : OpenClaim := { program := "ytogafcnaombpaaa", sum := "6e1e6d12d0adc91703f8c87eb447f1113dcd4ebd1ae7f0c0ac49fe94bbbf1716", func := "loop.example/g00864/laws.FnExactLeastExp", spec := "fnExactLeastExp", unfollowed := true, recurses := true, apart := false }
def FnExactLeastExpSaid : Prop := fnExactLeastExpRow.holds Try.pinned (OpenSpec.ofChange fnExactLeastExpSpec)

/-- ITS FALSE NEIGHBOUR: 'it returns false'. Refute it at one input. -/
def fnExactLeastExpWrong : ChangeSpec := { name := "fnExactLeastExp", fn := fun _ => fun
  | [d] => { results := [.lit (.bool false)], args := [d] }
  | _ => none }
def FnExactLeastExpWrongFalsely : Prop := fnExactLeastExpRow.holds Try.pinned (OpenSpec.ofChange fnExactLeastExpWrong)

/-- 'laws.FnExactColumnOf': WHATEVER THE INPUT: true; the input reads as it did. -/
def fnExactColumnOfSpec : ChangeSpec := { name := "fnExactColumnOf", fn := fun _ => fun
  | [d1, d2] => { results := [.lit (.bool true)], args := [d1, d2] }
  | _ => none }
def fnExactColumnOfRow : OpenClaim := { program := "ytogafcnaombpaaa", sum := "6e1e6d12d0adc91703f8c87eb447f1113dcd4ebd1ae7f0c0ac49fe94bbbf1716", func := "loop.example/g00864/laws.FnExactColumnOf", spec := "fnExactColumnOf", unfollowed := true, recurses := true, apart := false }
def FnExactColumnOfSaid : Prop := fnExactColumnOfRow.holds Try.pinned (OpenSpec.ofChange fnExactColumnOfSpec)

/-- ITS FALSE NEIGHBOUR: 'it returns false'. Refute it at one input. -/
def fnExactColumnOfWrong : ChangeSpec := { name := "fnExactColumnOf", fn := fun _ => fun
  | [d1, d2] => { results := [.lit (.bool false)], args := [d1, d2] }
  | _ => none }
def FnExactColumnOfWrongFalsely : Prop := fnExactColumnOfRow.holds Try.pinned (OpenSpec.ofChange fnExactColumnOfWrong)

/-- 'laws.FnExactAdjoint': WHATEVER THE INPUT: true; the input reads as it did. -/
def fnExactAdjointSpec : ChangeSpec := { name := "fnExactAdjoint", fn := fun _ => fun
  | [d] => { results := [.lit (.bool true)], args := [d] }
  | _ => none }
def fnExactAdjointRow : OpenClaim := { program := "ytogafcnaombpaaa", sum := "6e1e6d12d0adc91703f8c87eb447f1113dcd4ebd1ae7f0c0ac49fe94bbbf1716", func := "loop.example/g00864/laws.FnExactAdjoint", spec := "fnExactAdjoint", unfollowed := true, recurses := true, apart := false }
def FnExactAdjointSaid : Prop := fnExactAdjointRow.holds Try.pinned (OpenSpec.ofChange fnExactAdjointSpec)

/-- ITS FALSE NEIGHBOUR: 'it returns false'. Refute it at one input. -/
def fnExactAdjointWrong : ChangeSpec := { name := "fnExactAdjoint", fn := fun _ => fun
  | [d] => { results := [.lit (.bool false)], args := [d] }
  | _ => none }
def FnExactAdjointWrongFalsely : Prop := fnExactAdjointRow.holds Try.pinned (OpenSpec.ofChange fnExactAdjointWrong)

/-- 'laws.FnExactEqualUpToPhase': WHATEVER THE INPUT: true; the input reads as it did. -/
def fnExactEqualUpToPhaseSpec : ChangeSpec := { name := "fnExactEqualUpToPhase", fn := fun _ => fun
  | [d1, d2] => { results := [.lit (.bool true)], args := [d1, d2] }
  | _ => none }
def fnExactEqualUpToPhaseRow : OpenClaim := { program := "ytogafcnaombpaaa", sum := "6e1e6d12d0adc91703f8c87eb447f1113dcd4ebd1ae7f0c0ac49fe94bbbf1716", func := "loop.example/g00864/laws.FnExactEqualUpToPhase", spec := "fnExactEqualUpToPhase", unfollowed := true, recurses := true, apart := false }
def FnExactEqualUpToPhaseSaid : Prop := fnExactEqualUpToPhaseRow.holds Try.pinned (OpenSpec.ofChange fnExactEqualUpToPhaseSpec)

/-- ITS FALSE NEIGHBOUR: 'it returns false'. Refute it at one input. -/
def fnExactEqualUpToPhaseWrong : ChangeSpec := { name := "fnExactEqualUpToPhase", fn := fun _ => fun
  | [d1, d2] => { results := [.lit (.bool false)], args := [d1, d2] }
  | _ => none }
def FnExactEqualUpToPhaseWrongFalsely : Prop := fnExactEqualUpToPhaseRow.holds Try.pinned (OpenSpec.ofChange fnExactEqualUpToPhaseWrong)

/-- 'laws.FnExactScaleMatrix': WHATEVER THE INPUT: true; the input reads as it did. -/
def fnExactScaleMatrixSpec : ChangeSpec := { name := "fnExactScaleMatrix", fn := fun _ => fun
  | [d1, d2] => { results := [.lit (.bool true)], args := [d1, d2] }
  | _ => none }
def fnExactScaleMatrixRow : OpenClaim := { program := "ytogafcnaombpaaa", sum := "6e1e6d12d0adc91703f8c87eb447f1113dcd4ebd1ae7f0c0ac49fe94bbbf1716", func := "loop.example/g00864/laws.FnExactScaleMatrix", spec := "fnExactScaleMatrix", unfollowed := true, recurses := true, apart := false }
def FnExactScaleMatrixSaid : Prop := fnExactScaleMatrixRow.holds Try.pinned (OpenSpec.ofChange fnExactScaleMatrixSpec)

/-- ITS FALSE NEIGHBOUR: 'it returns false'. Refute it at one input. -/
def fnExactScaleMatrixWrong : ChangeSpec := { name := "fnExactScaleMatrix", fn := fun _ => fun
  | [d1, d2] => { results := [.lit (.bool false)], args := [d1, d2] }
  | _ => none }
def FnExactScaleMatrixWrongFalsely : Prop := fnExactScaleMatrixRow.holds Try.pinned (OpenSpec.ofChange fnExactScaleMatrixWrong)

/-- 'laws.FnExactKron': WHATEVER THE INPUT: true; the input reads as it did. -/
def fnExactKronSpec : ChangeSpec := { name := "fnExactKron", fn := fun _ => fun
  | [d1, d2] => { results := [.lit (.bool true)], args := [d1, d2] }
  | _ => none }
def fnExactKronRow : OpenClaim := { program := "ytogafcnaombpaaa", sum := "6e1e6d12d0adc91703f8c87eb447f1113dcd4ebd1ae7f0c0ac49fe94bbbf1716", func := "loop.example/g00864/laws.FnExactKron", spec := "fnExactKron", unfollowed := true, recurses := true, apart := false }
def FnExactKronSaid : Prop := fnExactKronRow.holds Try.pinned (OpenSpec.ofChange fnExactKronSpec)

/-- ITS FALSE NEIGHBOUR: 'it returns false'. Refute it at one input. -/
def fnExactKronWrong : ChangeSpec := { name := "fnExactKron", fn := fun _ => fun
  | [d1, d2] => { results := [.lit (.bool false)], args := [d1, d2] }
  | _ => none }
def FnExactKronWrongFalsely : Prop := fnExactKronRow.holds Try.pinned (OpenSpec.ofChange fnExactKronWrong)

/- THE SECOND FORM. 'bulk': how many values and letters a reading holds, each counted each time it is reached (what is shared counts as often as it is met; a slice's spare places count too). A statement '..UptoSaid' is the law's where the arguments, and the package variables that the reading takes, are together of bulk at most 1048576: NARROWER than '..Said'. Prove '..Said' where nothing that the law and all that it calls make is longer than what came in: it says more and counts as full. Else prove '..UptoSaid'. A law counts once. -/
mutual
def uptoBulk {H : Type} : DataW H → Nat
  | .lit (.string bytes) => bytes.length + 1
  | .lit _ => 1
  | .nil => 1
  | .ptr d => uptoBulk d + 1
  | .slice elems spare => uptoBulkAll elems + uptoBulkAll spare + 1
  | .agg parts => uptoBulkAll parts + 1
  | .iface _ d => uptoBulk d + 1
  | .map entries => uptoBulkEntries entries + 1
  | .held _ => 1
def uptoBulkAll {H : Type} : List (DataW H) → Nat
  | [] => 0
  | d :: r => uptoBulk d + uptoBulkAll r
def uptoBulkEntries {H : Type} : List (Lit × DataW H) → Nat
  | [] => 0
  | x :: r => uptoBulkEntry x + uptoBulkEntries r
def uptoBulkEntry {H : Type} : Lit × DataW H → Nat
  | (.string bytes, d) => bytes.length + uptoBulk d + 1
  | (_, d) => uptoBulk d + 1
 end
def uptoSmall : (H : Type) → List (DataW H) → Bool := fun _ ds => decide (uptoBulkAll ds ≤ 1048576)
def OpenSpec.upto (s : _root_.Go.ChangeSpec) : _root_.Go.OpenSpec := { _root_.Go.OpenSpec.ofChange s with cond := some uptoSmall }

/-- 'laws.FnExactEqualMatrices', WHERE WHAT IT READS IS OF BULK AT MOST 1048576: true; the input reads as it did. -/
def fnExactEqualMatricesUptoRow : OpenClaim := { program := "ytogafcnaombpaaa", sum := "6e1e6d12d0adc91703f8c87eb447f1113dcd4ebd1ae7f0c0ac49fe94bbbf1716", func := "loop.example/g00864/laws.FnExactEqualMatrices", spec := "fnExactEqualMatrices", apart := false, narrowed := true }
def FnExactEqualMatricesUptoSaid : Prop := fnExactEqualMatricesUptoRow.holds Try.pinned (OpenSpec.upto fnExactEqualMatricesSpec)

/-- 'laws.FnExactDivRing', WHERE WHAT IT READS IS OF BULK AT MOST 1048576: true; the input reads as it did. -/
def fnExactDivRingUptoRow : OpenClaim := { program := "ytogafcnaombpaaa", sum := "6e1e6d12d0adc91703f8c87eb447f1113dcd4ebd1ae7f0c0ac49fe94bbbf1716", func := "loop.example/g00864/laws.FnExactDivRing", spec := "fnExactDivRing", apart := false, narrowed := true }
def FnExactDivRingUptoSaid : Prop := fnExactDivRingUptoRow.holds Try.pinned (OpenSpec.upto fnExactDivRingSpec)

/-- 'laws.FnExactIsValidMatrix', WHERE WHAT IT READS IS OF BULK AT MOST 1048576: true; the input reads as it did. -/
def fnExactIsValidMatrixUptoRow : OpenClaim := { program := "ytogafcnaombpaaa", sum := "6e1e6d12d0adc91703f8c87eb447f1113dcd4ebd1ae7f0c0ac49fe94bbbf1716", func := "loop.example/g00864/laws.FnExactIsValidMatrix", spec := "fnExactIsValidMatrix", unfollowed := true, recurses := true, apart := false, narrowed := true }
def FnExactIsValidMatrixUptoSaid : Prop := fnExactIsValidMatrixUptoRow.holds Try.pinned (OpenSpec.upto fnExactIsValidMatrixSpec)

/-- 'laws.FnExactMulDyadic', WHERE WHAT IT READS IS OF BULK AT MOST 1048576: true; the input reads as it did. -/
def fnExactMulDyadicUptoRow : OpenClaim := { program := "ytogafcnaombpaaa", sum := "6e1e6d12d0adc91703f8c87eb447f1113dcd4ebd1ae7f0c0ac49fe94bbbf1716", func := "loop.example/g00864/laws.FnExactMulDyadic", spec := "fnExactMulDyadic", apart := false, narrowed := true }
def FnExactMulDyadicUptoSaid : Prop := fnExactMulDyadicUptoRow.holds Try.pinned (OpenSpec.upto fnExactMulDyadicSpec)

/-- 'laws.FnExactIdentityMatrix', WHERE WHAT IT READS IS OF BULK AT MOST 1048576: true; the input reads as it did. -/
def fnExactIdentityMatrixUptoRow : OpenClaim := { program := "ytogafcnaombpaaa", sum := "6e1e6d12d0adc91703f8c87eb447f1113dcd4ebd1ae7f0c0ac49fe94bbbf1716", func := "loop.example/g00864/laws.FnExactIdentityMatrix", spec := "fnExactIdentityMatrix", unfollowed := true, recurses := true, apart := false, narrowed := true }
def FnExactIdentityMatrixUptoSaid : Prop := fnExactIdentityMatrixUptoRow.holds Try.pinned (OpenSpec.upto fnExactIdentityMatrixSpec)

/-- 'laws.FnExactNormSquare', WHERE WHAT IT READS IS OF BULK AT MOST 1048576: true; the input reads as it did. -/
def fnExactNormSquareUptoRow : OpenClaim := { program := "ytogafcnaombpaaa", sum := "6e1e6d12d0adc91703f8c87eb447f1113dcd4ebd1ae7f0c0ac49fe94bbbf1716", func := "loop.example/g00864/laws.FnExactNormSquare", spec := "fnExactNormSquare", apart := false, narrowed := true }
def FnExactNormSquareUptoSaid : Prop := fnExactNormSquareUptoRow.holds Try.pinned (OpenSpec.upto fnExactNormSquareSpec)

/-- 'laws.FnExactLeastExp', WHERE WHAT IT READS IS OF BULK AT MOST 1048576: true; the input reads as it did. -/
def fnExactLeastExpUptoRow : OpenClaim := { program := "ytogafcnaombpaaa", sum := "6e1e6d12d0adc91703f8c87eb447f1113dcd4ebd1ae7f0c0ac49fe94bbbf1716", func := "loop.example/g00864/laws.FnExactLeastExp", spec := "fnExactLeastExp", unfollowed := true, recurses := true, apart := false, narrowed := true }
def FnExactLeastExpUptoSaid : Prop := fnExactLeastExpUptoRow.holds Try.pinned (OpenSpec.upto fnExactLeastExpSpec)

/-- 'laws.FnExactColumnOf', WHERE WHAT IT READS IS OF BULK AT MOST 1048576: true; the input reads as it did. -/
def fnExactColumnOfUptoRow : OpenClaim := { program := "ytogafcnaombpaaa", sum := "6e1e6d12d0adc91703f8c87eb447f1113dcd4ebd1ae7f0c0ac49fe94bbbf1716", func := "loop.example/g00864/laws.FnExactColumnOf", spec := "fnExactColumnOf", unfollowed := true, recurses := true, apart := false, narrowed := true }
def FnExactColumnOfUptoSaid : Prop := fnExactColumnOfUptoRow.holds Try.pinned (OpenSpec.upto fnExactColumnOfSpec)

/-- 'laws.FnExactAdjoint', WHERE WHAT IT READS IS OF BULK AT MOST 1048576: true; the input reads as it did. -/
def fnExactAdjointUptoRow : OpenClaim := { program := "ytogafcnaombpaaa", sum := "6e1e6d12d0adc91703f8c87eb447f1113dcd4ebd1ae7f0c0ac49fe94bbbf1716", func := "loop.example/g00864/laws.FnExactAdjoint", spec := "fnExactAdjoint", unfollowed := true, recurses := true, apart := false, narrowed := true }
def FnExactAdjointUptoSaid : Prop := fnExactAdjointUptoRow.holds Try.pinned (OpenSpec.upto fnExactAdjointSpec)

/-- 'laws.FnExactEqualUpToPhase', WHERE WHAT IT READS IS OF BULK AT MOST 1048576: true; the input reads as it did. -/
def fnExactEqualUpToPhaseUptoRow : OpenClaim := { program := "ytogafcnaombpaaa", sum := "6e1e6d12d0adc91703f8c87eb447f1113dcd4ebd1ae7f0c0ac49fe94bbbf1716", func := "loop.example/g00864/laws.FnExactEqualUpToPhase", spec := "fnExactEqualUpToPhase", unfollowed := true, recurses := true, apart := false, narrowed := true }
def FnExactEqualUpToPhaseUptoSaid : Prop := fnExactEqualUpToPhaseUptoRow.holds Try.pinned (OpenSpec.upto fnExactEqualUpToPhaseSpec)

/-- 'laws.FnExactScaleMatrix', WHERE WHAT IT READS IS OF BULK AT MOST 1048576: true; the input reads as it did. -/
def fnExactScaleMatrixUptoRow : OpenClaim := { program := "ytogafcnaombpaaa", sum := "6e1e6d12d0adc91703f8c87eb447f1113dcd4ebd1ae7f0c0ac49fe94bbbf1716", func := "loop.example/g00864/laws.FnExactScaleMatrix", spec := "fnExactScaleMatrix", unfollowed := true, recurses := true, apart := false, narrowed := true }
def FnExactScaleMatrixUptoSaid : Prop := fnExactScaleMatrixUptoRow.holds Try.pinned (OpenSpec.upto fnExactScaleMatrixSpec)

/-- 'laws.FnExactKron', WHERE WHAT IT READS IS OF BULK AT MOST 1048576: true; the input reads as it did. -/
def fnExactKronUptoRow : OpenClaim := { program := "ytogafcnaombpaaa", sum := "6e1e6d12d0adc91703f8c87eb447f1113dcd4ebd1ae7f0c0ac49fe94bbbf1716", func := "loop.example/g00864/laws.FnExactKron", spec := "fnExactKron", unfollowed := true, recurses := true, apart := false, narrowed := true }
def FnExactKronUptoSaid : Prop := fnExactKronUptoRow.holds Try.pinned (OpenSpec.upto fnExactKronSpec)

end Rows
end Go.Proofs.Ytogafcnaombpaaa
