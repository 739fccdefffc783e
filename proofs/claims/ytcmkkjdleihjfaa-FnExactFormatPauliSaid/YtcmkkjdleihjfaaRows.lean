/-
  No cell of these rows narrows 'for every input' (looked for: loops, veiled, ifaces, maps, wideKeys, modest, calm, conditions, laid).
  DERIVED. THE GIVEN ROWS OF THIS SEAT. 9 by the template 'for every input the law returns true; each argument reads behind the call as it read before'; 0 by the template 'total and deterministic' (their statements: YtcmkkjdleihjfaaTotals.lean).
  GIVEN WITH THE SEED: the statements are not yours to turn. If you find one false, say at which input.
  Laid BY PROGRAM, IN A SANDBOX (cutbox-rows.mjs): the forced cells as the released guide's own fill.sh prints them over the translation 0790ec840fd81094… (all of the seat's roots in one cut). By AI agents, Wed Nov 11 2026. No macro, syntax, notation, axiom, sorry.
-/
import Derived.Test.YtcmkkjdleihjfaaChecked
import GoSem.Claim
import GoSem.ClaimJoined
import GoSem.ClaimMapViews
import Derived.JoinedTies
import Derived.KernelRfl
namespace Go.Proofs.Ytcmkkjdleihjfaa
/- THE CELL 'sum', in the pinned program and in every row, IS THE sha256 OF THE DUMP (.gsa) THAT YtcmkkjdleihjfaaProg.lean LOADS. Nothing in Lean hashes anything: it is a label: what it is worth is what the hold of that sum in a sandbox is worth. -/
noncomputable def Try.pinned : Pinned := { name := "ytcmkkjdleihjfaa", sum := "0790ec840fd8109403f9b40e16badf049dbe4606329377b108c6e9f141aaa57b", checked := Try.checked }
namespace Rows
def none {H : Type} : Left H := { results := [], args := [] }

/-- 'laws.FnExactFormatPauli': WHATEVER THE INPUT: true; the input reads as it did. -/
def fnExactFormatPauliSpec : ChangeSpec := { name := "fnExactFormatPauli", fn := fun _ => fun
  | [d1, d2] => { results := [.lit (.bool true)], args := [d1, d2] }
  | _ => none }
def fnExactFormatPauliRow : OpenClaim := { program := "ytcmkkjdleihjfaa", sum := "0790ec840fd8109403f9b40e16badf049dbe4606329377b108c6e9f141aaa57b", func := "loop.example/g00864/laws.FnExactFormatPauli", spec := "fnExactFormatPauli", apart := false }
def FnExactFormatPauliSaid : Prop := fnExactFormatPauliRow.holds Try.pinned (OpenSpec.ofChange fnExactFormatPauliSpec)

/-- ITS FALSE NEIGHBOUR: 'it returns false'. Refute it at one input. -/
def fnExactFormatPauliWrong : ChangeSpec := { name := "fnExactFormatPauli", fn := fun _ => fun
  | [d1, d2] => { results := [.lit (.bool false)], args := [d1, d2] }
  | _ => none }
def FnExactFormatPauliWrongFalsely : Prop := fnExactFormatPauliRow.holds Try.pinned (OpenSpec.ofChange fnExactFormatPauliWrong)

/-- 'laws.FnExactCommute': WHATEVER THE INPUT: true; the input reads as it did. -/
def fnExactCommuteSpec : ChangeSpec := { name := "fnExactCommute", fn := fun _ => fun
  | [d1, d2, d3] => { results := [.lit (.bool true)], args := [d1, d2, d3] }
  | _ => none }
def fnExactCommuteRow : OpenClaim := { program := "ytcmkkjdleihjfaa", sum := "0790ec840fd8109403f9b40e16badf049dbe4606329377b108c6e9f141aaa57b", func := "loop.example/g00864/laws.FnExactCommute", spec := "fnExactCommute", apart := false }
def FnExactCommuteSaid : Prop := fnExactCommuteRow.holds Try.pinned (OpenSpec.ofChange fnExactCommuteSpec)

/-- ITS FALSE NEIGHBOUR: 'it returns false'. Refute it at one input. -/
def fnExactCommuteWrong : ChangeSpec := { name := "fnExactCommute", fn := fun _ => fun
  | [d1, d2, d3] => { results := [.lit (.bool false)], args := [d1, d2, d3] }
  | _ => none }
def FnExactCommuteWrongFalsely : Prop := fnExactCommuteRow.holds Try.pinned (OpenSpec.ofChange fnExactCommuteWrong)

/-- 'laws.FnExactMulPauli': WHATEVER THE INPUT: true; the input reads as it did. -/
def fnExactMulPauliSpec : ChangeSpec := { name := "fnExactMulPauli", fn := fun _ => fun
  | [d1, d2, d3] => { results := [.lit (.bool true)], args := [d1, d2, d3] }
  | _ => none }
def fnExactMulPauliRow : OpenClaim := { program := "ytcmkkjdleihjfaa", sum := "0790ec840fd8109403f9b40e16badf049dbe4606329377b108c6e9f141aaa57b", func := "loop.example/g00864/laws.FnExactMulPauli", spec := "fnExactMulPauli", apart := false }
def FnExactMulPauliSaid : Prop := fnExactMulPauliRow.holds Try.pinned (OpenSpec.ofChange fnExactMulPauliSpec)

/-- ITS FALSE NEIGHBOUR: 'it returns false'. Refute it at one input. -/
def fnExactMulPauliWrong : ChangeSpec := { name := "fnExactMulPauli", fn := fun _ => fun
  | [d1, d2, d3] => { results := [.lit (.bool false)], args := [d1, d2, d3] }
  | _ => none }
def FnExactMulPauliWrongFalsely : Prop := fnExactMulPauliRow.holds Try.pinned (OpenSpec.ofChange fnExactMulPauliWrong)

/-- 'laws.FnRing': WHATEVER THE INPUT: true; the input reads as it did. -/
def fnRingSpec : ChangeSpec := { name := "fnRing", fn := fun _ => fun
  | [d1, d2] => { results := [.lit (.bool true)], args := [d1, d2] }
  | _ => none }
def fnRingRow : OpenClaim := { program := "ytcmkkjdleihjfaa", sum := "0790ec840fd8109403f9b40e16badf049dbe4606329377b108c6e9f141aaa57b", func := "loop.example/g00864/laws.FnRing", spec := "fnRing", apart := false }
def FnRingSaid : Prop := fnRingRow.holds Try.pinned (OpenSpec.ofChange fnRingSpec)

/-- ITS FALSE NEIGHBOUR: 'it returns false'. Refute it at one input. -/
def fnRingWrong : ChangeSpec := { name := "fnRing", fn := fun _ => fun
  | [d1, d2] => { results := [.lit (.bool false)], args := [d1, d2] }
  | _ => none }
def FnRingWrongFalsely : Prop := fnRingRow.holds Try.pinned (OpenSpec.ofChange fnRingWrong)

/-- 'laws.FnRingNorms': WHATEVER THE INPUT: true; the input reads as it did. -/
def fnRingNormsSpec : ChangeSpec := { name := "fnRingNorms", fn := fun _ => fun
  | [d1, d2] => { results := [.lit (.bool true)], args := [d1, d2] }
  | _ => none }
def fnRingNormsRow : OpenClaim := { program := "ytcmkkjdleihjfaa", sum := "0790ec840fd8109403f9b40e16badf049dbe4606329377b108c6e9f141aaa57b", func := "loop.example/g00864/laws.FnRingNorms", spec := "fnRingNorms", apart := false }
def FnRingNormsSaid : Prop := fnRingNormsRow.holds Try.pinned (OpenSpec.ofChange fnRingNormsSpec)

/-- ITS FALSE NEIGHBOUR: 'it returns false'. Refute it at one input. -/
def fnRingNormsWrong : ChangeSpec := { name := "fnRingNorms", fn := fun _ => fun
  | [d1, d2] => { results := [.lit (.bool false)], args := [d1, d2] }
  | _ => none }
def FnRingNormsWrongFalsely : Prop := fnRingNormsRow.holds Try.pinned (OpenSpec.ofChange fnRingNormsWrong)

/-- 'laws.FnLowest': WHATEVER THE INPUT: true; the input reads as it did. -/
def fnLowestSpec : ChangeSpec := { name := "fnLowest", fn := fun _ => fun
  | [d1, d2] => { results := [.lit (.bool true)], args := [d1, d2] }
  | _ => none }
def fnLowestRow : OpenClaim := { program := "ytcmkkjdleihjfaa", sum := "0790ec840fd8109403f9b40e16badf049dbe4606329377b108c6e9f141aaa57b", func := "loop.example/g00864/laws.FnLowest", spec := "fnLowest", unfollowed := true, recurses := true, apart := false }
def FnLowestSaid : Prop := fnLowestRow.holds Try.pinned (OpenSpec.ofChange fnLowestSpec)

/-- ITS FALSE NEIGHBOUR: 'it returns false'. Refute it at one input. -/
def fnLowestWrong : ChangeSpec := { name := "fnLowest", fn := fun _ => fun
  | [d1, d2] => { results := [.lit (.bool false)], args := [d1, d2] }
  | _ => none }
def FnLowestWrongFalsely : Prop := fnLowestRow.holds Try.pinned (OpenSpec.ofChange fnLowestWrong)

/-- 'laws.FnExactEqualUpToPhase': WHATEVER THE INPUT: true; the input reads as it did. -/
def fnExactEqualUpToPhaseSpec : ChangeSpec := { name := "fnExactEqualUpToPhase", fn := fun _ => fun
  | [d1, d2] => { results := [.lit (.bool true)], args := [d1, d2] }
  | _ => none }
def fnExactEqualUpToPhaseRow : OpenClaim := { program := "ytcmkkjdleihjfaa", sum := "0790ec840fd8109403f9b40e16badf049dbe4606329377b108c6e9f141aaa57b", func := "loop.example/g00864/laws.FnExactEqualUpToPhase", spec := "fnExactEqualUpToPhase", unfollowed := true, recurses := true, apart := false }
def FnExactEqualUpToPhaseSaid : Prop := fnExactEqualUpToPhaseRow.holds Try.pinned (OpenSpec.ofChange fnExactEqualUpToPhaseSpec)

/-- ITS FALSE NEIGHBOUR: 'it returns false'. Refute it at one input. -/
def fnExactEqualUpToPhaseWrong : ChangeSpec := { name := "fnExactEqualUpToPhase", fn := fun _ => fun
  | [d1, d2] => { results := [.lit (.bool false)], args := [d1, d2] }
  | _ => none }
def FnExactEqualUpToPhaseWrongFalsely : Prop := fnExactEqualUpToPhaseRow.holds Try.pinned (OpenSpec.ofChange fnExactEqualUpToPhaseWrong)

/-- 'laws.FnExactScaleMatrix': WHATEVER THE INPUT: true; the input reads as it did. -/
def fnExactScaleMatrixSpec : ChangeSpec := { name := "fnExactScaleMatrix", fn := fun _ => fun
  | [d1, d2] => { results := [.lit (.bool true)], args := [d1, d2] }
  | _ => none }
def fnExactScaleMatrixRow : OpenClaim := { program := "ytcmkkjdleihjfaa", sum := "0790ec840fd8109403f9b40e16badf049dbe4606329377b108c6e9f141aaa57b", func := "loop.example/g00864/laws.FnExactScaleMatrix", spec := "fnExactScaleMatrix", unfollowed := true, recurses := true, apart := false }
def FnExactScaleMatrixSaid : Prop := fnExactScaleMatrixRow.holds Try.pinned (OpenSpec.ofChange fnExactScaleMatrixSpec)

/-- ITS FALSE NEIGHBOUR: 'it returns false'. Refute it at one input. -/
def fnExactScaleMatrixWrong : ChangeSpec := { name := "fnExactScaleMatrix", fn := fun _ => fun
  | [d1, d2] => { results := [.lit (.bool false)], args := [d1, d2] }
  | _ => none }
def FnExactScaleMatrixWrongFalsely : Prop := fnExactScaleMatrixRow.holds Try.pinned (OpenSpec.ofChange fnExactScaleMatrixWrong)

/-- 'laws.FnExactKron': WHATEVER THE INPUT: true; the input reads as it did. -/
def fnExactKronSpec : ChangeSpec := { name := "fnExactKron", fn := fun _ => fun
  | [d1, d2] => { results := [.lit (.bool true)], args := [d1, d2] }
  | _ => none }
def fnExactKronRow : OpenClaim := { program := "ytcmkkjdleihjfaa", sum := "0790ec840fd8109403f9b40e16badf049dbe4606329377b108c6e9f141aaa57b", func := "loop.example/g00864/laws.FnExactKron", spec := "fnExactKron", unfollowed := true, recurses := true, apart := false }
def FnExactKronSaid : Prop := fnExactKronRow.holds Try.pinned (OpenSpec.ofChange fnExactKronSpec)

/-- ITS FALSE NEIGHBOUR: 'it returns false'. Refute it at one input. -/
def fnExactKronWrong : ChangeSpec := { name := "fnExactKron", fn := fun _ => fun
  | [d1, d2] => { results := [.lit (.bool false)], args := [d1, d2] }
  | _ => none }
def FnExactKronWrongFalsely : Prop := fnExactKronRow.holds Try.pinned (OpenSpec.ofChange fnExactKronWrong)

/- THE SECOND FORM. 'bulk': how many values and letters a reading holds, each counted each time it is reached (what is shared counts as often as it is met; a slice's spare places count too). A statement '..UptoSaid' is the law's where the arguments, and the package variables that the reading takes, are together of bulk at most 1048576: NARROWER than '..Said'. Prove '..Said' where nothing that the law and all that it calls make is longer than what came in: it says more and counts as full. Else prove '..UptoSaid'. A law counts once. -/
mutual
def uptoBulk {H : Type} : DataW H → Nat
  | .lit (.string bytes) => bytes.length + 1
  | .lit _ => 1
  | .nil => 1
  | .ptr d => uptoBulk d + 1
  | .slice elems spare => uptoBulkAll elems + uptoBulkAll spare + 1
  | .agg parts => uptoBulkAll parts + 1
  | .iface _ d => uptoBulk d + 1
  | .map entries => uptoBulkEntries entries + 1
  | .held _ => 1
def uptoBulkAll {H : Type} : List (DataW H) → Nat
  | [] => 0
  | d :: r => uptoBulk d + uptoBulkAll r
def uptoBulkEntries {H : Type} : List (Lit × DataW H) → Nat
  | [] => 0
  | x :: r => uptoBulkEntry x + uptoBulkEntries r
def uptoBulkEntry {H : Type} : Lit × DataW H → Nat
  | (.string bytes, d) => bytes.length + uptoBulk d + 1
  | (_, d) => uptoBulk d + 1
 end
def uptoSmall : (H : Type) → List (DataW H) → Bool := fun _ ds => decide (uptoBulkAll ds ≤ 1048576)
def OpenSpec.upto (s : _root_.Go.ChangeSpec) : _root_.Go.OpenSpec := { _root_.Go.OpenSpec.ofChange s with cond := some uptoSmall }

/-- 'laws.FnExactFormatPauli', WHERE WHAT IT READS IS OF BULK AT MOST 1048576: true; the input reads as it did. -/
def fnExactFormatPauliUptoRow : OpenClaim := { program := "ytcmkkjdleihjfaa", sum := "0790ec840fd8109403f9b40e16badf049dbe4606329377b108c6e9f141aaa57b", func := "loop.example/g00864/laws.FnExactFormatPauli", spec := "fnExactFormatPauli", apart := false, narrowed := true }
def FnExactFormatPauliUptoSaid : Prop := fnExactFormatPauliUptoRow.holds Try.pinned (OpenSpec.upto fnExactFormatPauliSpec)

/-- 'laws.FnExactCommute', WHERE WHAT IT READS IS OF BULK AT MOST 1048576: true; the input reads as it did. -/
def fnExactCommuteUptoRow : OpenClaim := { program := "ytcmkkjdleihjfaa", sum := "0790ec840fd8109403f9b40e16badf049dbe4606329377b108c6e9f141aaa57b", func := "loop.example/g00864/laws.FnExactCommute", spec := "fnExactCommute", apart := false, narrowed := true }
def FnExactCommuteUptoSaid : Prop := fnExactCommuteUptoRow.holds Try.pinned (OpenSpec.upto fnExactCommuteSpec)

/-- 'laws.FnExactMulPauli', WHERE WHAT IT READS IS OF BULK AT MOST 1048576: true; the input reads as it did. -/
def fnExactMulPauliUptoRow : OpenClaim := { program := "ytcmkkjdleihjfaa", sum := "0790ec840fd8109403f9b40e16badf049dbe4606329377b108c6e9f141aaa57b", func := "loop.example/g00864/laws.FnExactMulPauli", spec := "fnExactMulPauli", apart := false, narrowed := true }
def FnExactMulPauliUptoSaid : Prop := fnExactMulPauliUptoRow.holds Try.pinned (OpenSpec.upto fnExactMulPauliSpec)

/-- 'laws.FnRing', WHERE WHAT IT READS IS OF BULK AT MOST 1048576: true; the input reads as it did. -/
def fnRingUptoRow : OpenClaim := { program := "ytcmkkjdleihjfaa", sum := "0790ec840fd8109403f9b40e16badf049dbe4606329377b108c6e9f141aaa57b", func := "loop.example/g00864/laws.FnRing", spec := "fnRing", apart := false, narrowed := true }
def FnRingUptoSaid : Prop := fnRingUptoRow.holds Try.pinned (OpenSpec.upto fnRingSpec)

/-- 'laws.FnRingNorms', WHERE WHAT IT READS IS OF BULK AT MOST 1048576: true; the input reads as it did. -/
def fnRingNormsUptoRow : OpenClaim := { program := "ytcmkkjdleihjfaa", sum := "0790ec840fd8109403f9b40e16badf049dbe4606329377b108c6e9f141aaa57b", func := "loop.example/g00864/laws.FnRingNorms", spec := "fnRingNorms", apart := false, narrowed := true }
def FnRingNormsUptoSaid : Prop := fnRingNormsUptoRow.holds Try.pinned (OpenSpec.upto fnRingNormsSpec)

/-- 'laws.FnLowest', WHERE WHAT IT READS IS OF BULK AT MOST 1048576: true; the input reads as it did. -/
def fnLowestUptoRow : OpenClaim := { program := "ytcmkkjdleihjfaa", sum := "0790ec840fd8109403f9b40e16badf049dbe4606329377b108c6e9f141aaa57b", func := "loop.example/g00864/laws.FnLowest", spec := "fnLowest", unfollowed := true, recurses := true, apart := false, narrowed := true }
def FnLowestUptoSaid : Prop := fnLowestUptoRow.holds Try.pinned (OpenSpec.upto fnLowestSpec)

/-- 'laws.FnExactEqualUpToPhase', WHERE WHAT IT READS IS OF BULK AT MOST 1048576: true; the input reads as it did. -/
def fnExactEqualUpToPhaseUptoRow : OpenClaim := { program := "ytcmkkjdleihjfaa", sum := "0790ec840fd8109403f9b40e16badf049dbe4606329377b108c6e9f141aaa57b", func := "loop.example/g00864/laws.FnExactEqualUpToPhase", spec := "fnExactEqualUpToPhase", unfollowed := true, recurses := true, apart := false, narrowed := true }
def FnExactEqualUpToPhaseUptoSaid : Prop := fnExactEqualUpToPhaseUptoRow.holds Try.pinned (OpenSpec.upto fnExactEqualUpToPhaseSpec)

/-- 'laws.FnExactScaleMatrix', WHERE WHAT IT READS IS OF BULK AT MOST 1048576: true; the input reads as it did. -/
def fnExactScaleMatrixUptoRow : OpenClaim := { program := "ytcmkkjdleihjfaa", sum := "0790ec840fd8109403f9b40e16badf049dbe4606329377b108c6e9f141aaa57b", func := "loop.example/g00864/laws.FnExactScaleMatrix", spec := "fnExactScaleMatrix", unfollowed := true, recurses := true, apart := false, narrowed := true }
def FnExactScaleMatrixUptoSaid : Prop := fnExactScaleMatrixUptoRow.holds Try.pinned (OpenSpec.upto fnExactScaleMatrixSpec)

/-- 'laws.FnExactKron', WHERE WHAT IT READS IS OF BULK AT MOST 1048576: true; the input reads as it did. -/
def fnExactKronUptoRow : OpenClaim := { program := "ytcmkkjdleihjfaa", sum := "0790ec840fd8109403f9b40e16badf049dbe4606329377b108c6e9f141aaa57b", func := "loop.example/g00864/laws.FnExactKron", spec := "fnExactKron", unfollowed := true, recurses := true, apart := false, narrowed := true }
def FnExactKronUptoSaid : Prop := fnExactKronUptoRow.holds Try.pinned (OpenSpec.upto fnExactKronSpec)

end Rows
end Go.Proofs.Ytcmkkjdleihjfaa
