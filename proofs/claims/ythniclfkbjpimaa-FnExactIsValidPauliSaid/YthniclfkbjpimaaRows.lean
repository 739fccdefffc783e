/-
  No cell of these rows narrows 'for every input' (looked for: loops, veiled, ifaces, maps, wideKeys, modest, calm, conditions, laid).
  DERIVED. THE GIVEN ROWS OF THIS SEAT. 12 by the template 'for every input the law returns true; each argument reads behind the call as it read before'; 0 by the template 'total and deterministic' (their statements: YthniclfkbjpimaaTotals.lean).
  GIVEN WITH THE SEED: the statements are not yours to turn. If you find one false, say at which input.
  Laid BY PROGRAM, IN A SANDBOX (cutbox-rows.mjs): the forced cells as the released guide's own fill.sh prints them over the translation 50dc5ec0572dc2ce… (all of the seat's roots in one cut). By AI agents, Wed Nov 11 2026. No macro, syntax, notation, axiom, sorry.
-/
import Derived.Test.YthniclfkbjpimaaChecked
import GoSem.Claim
import GoSem.ClaimJoined
import GoSem.ClaimMapViews
import Derived.JoinedTies
import Derived.KernelRfl
namespace Go.Proofs.Ythniclfkbjpimaa
/- THE CELL 'sum', in the pinned program and in every row, IS THE sha256 OF THE DUMP (.gsa) THAT YthniclfkbjpimaaProg.lean LOADS. Nothing in Lean hashes anything: it is a label: what it is worth is what the hold of that sum in a sandbox is worth. -/
noncomputable def Try.pinned : Pinned := { name := "ythniclfkbjpimaa", sum := "50dc5ec0572dc2ce74f54766d23c3c57b111b63b86056fdc69a297a65149dbf8", checked := Try.checked }
namespace Rows
def none {H : Type} : Left H := { results := [], args := [] }

/-- 'laws.FnExactIsValidPauli': WHATEVER THE INPUT: true; the input reads as it did. -/
def fnExactIsValidPauliSpec : ChangeSpec := { name := "fnExactIsValidPauli", fn := fun _ => fun
  | [d1, d2] => { results := [.lit (.bool true)], args := [d1, d2] }
  | _ => none }
def fnExactIsValidPauliRow : OpenClaim := { program := "ythniclfkbjpimaa", sum := "50dc5ec0572dc2ce74f54766d23c3c57b111b63b86056fdc69a297a65149dbf8", func := "loop.example/g00864/laws.FnExactIsValidPauli", spec := "fnExactIsValidPauli", apart := false }
def FnExactIsValidPauliSaid : Prop := fnExactIsValidPauliRow.holds Try.pinned (OpenSpec.ofChange fnExactIsValidPauliSpec)

/-- ITS FALSE NEIGHBOUR: 'it returns false'. Refute it at one input. -/
def fnExactIsValidPauliWrong : ChangeSpec := { name := "fnExactIsValidPauli", fn := fun _ => fun
  | [d1, d2] => { results := [.lit (.bool false)], args := [d1, d2] }
  | _ => none }
def FnExactIsValidPauliWrongFalsely : Prop := fnExactIsValidPauliRow.holds Try.pinned (OpenSpec.ofChange fnExactIsValidPauliWrong)

/-- 'laws.FnExactIsSubcircuitName': WHATEVER THE INPUT: true; the input reads as it did. -/
def fnExactIsSubcircuitNameSpec : ChangeSpec := { name := "fnExactIsSubcircuitName", fn := fun _ => fun
  | [d] => { results := [.lit (.bool true)], args := [d] }
  | _ => none }
def fnExactIsSubcircuitNameRow : OpenClaim := { program := "ythniclfkbjpimaa", sum := "50dc5ec0572dc2ce74f54766d23c3c57b111b63b86056fdc69a297a65149dbf8", func := "loop.example/g00864/laws.FnExactIsSubcircuitName", spec := "fnExactIsSubcircuitName", apart := false }
def FnExactIsSubcircuitNameSaid : Prop := fnExactIsSubcircuitNameRow.holds Try.pinned (OpenSpec.ofChange fnExactIsSubcircuitNameSpec)

/-- ITS FALSE NEIGHBOUR: 'it returns false'. Refute it at one input. -/
def fnExactIsSubcircuitNameWrong : ChangeSpec := { name := "fnExactIsSubcircuitName", fn := fun _ => fun
  | [d] => { results := [.lit (.bool false)], args := [d] }
  | _ => none }
def FnExactIsSubcircuitNameWrongFalsely : Prop := fnExactIsSubcircuitNameRow.holds Try.pinned (OpenSpec.ofChange fnExactIsSubcircuitNameWrong)

/-- 'laws.FnExactIsValidGate': WHATEVER THE INPUT: true; the input reads as it did. -/
def fnExactIsValidGateSpec : ChangeSpec := { name := "fnExactIsValidGate", fn := fun _ => fun
  | [d1, d2] => { results := [.lit (.bool true)], args := [d1, d2] }
  | _ => none }
def fnExactIsValidGateRow : OpenClaim := { program := "ythniclfkbjpimaa", sum := "50dc5ec0572dc2ce74f54766d23c3c57b111b63b86056fdc69a297a65149dbf8", func := "loop.example/g00864/laws.FnExactIsValidGate", spec := "fnExactIsValidGate", apart := false }
def FnExactIsValidGateSaid : Prop := fnExactIsValidGateRow.holds Try.pinned (OpenSpec.ofChange fnExactIsValidGateSpec)

/-- ITS FALSE NEIGHBOUR: 'it returns false'. Refute it at one input. -/
def fnExactIsValidGateWrong : ChangeSpec := { name := "fnExactIsValidGate", fn := fun _ => fun
  | [d1, d2] => { results := [.lit (.bool false)], args := [d1, d2] }
  | _ => none }
def FnExactIsValidGateWrongFalsely : Prop := fnExactIsValidGateRow.holds Try.pinned (OpenSpec.ofChange fnExactIsValidGateWrong)

/-- 'laws.FnExactIsValidDyadic': WHATEVER THE INPUT: true; the input reads as it did. -/
def fnExactIsValidDyadicSpec : ChangeSpec := { name := "fnExactIsValidDyadic", fn := fun _ => fun
  | [d] => { results := [.lit (.bool true)], args := [d] }
  | _ => none }
def fnExactIsValidDyadicRow : OpenClaim := { program := "ythniclfkbjpimaa", sum := "50dc5ec0572dc2ce74f54766d23c3c57b111b63b86056fdc69a297a65149dbf8", func := "loop.example/g00864/laws.FnExactIsValidDyadic", spec := "fnExactIsValidDyadic", apart := false }
def FnExactIsValidDyadicSaid : Prop := fnExactIsValidDyadicRow.holds Try.pinned (OpenSpec.ofChange fnExactIsValidDyadicSpec)

/-- ITS FALSE NEIGHBOUR: 'it returns false'. Refute it at one input. -/
def fnExactIsValidDyadicWrong : ChangeSpec := { name := "fnExactIsValidDyadic", fn := fun _ => fun
  | [d] => { results := [.lit (.bool false)], args := [d] }
  | _ => none }
def FnExactIsValidDyadicWrongFalsely : Prop := fnExactIsValidDyadicRow.holds Try.pinned (OpenSpec.ofChange fnExactIsValidDyadicWrong)

/-- 'laws.FnExactFormatPauli': WHATEVER THE INPUT: true; the input reads as it did. -/
def fnExactFormatPauliSpec : ChangeSpec := { name := "fnExactFormatPauli", fn := fun _ => fun
  | [d1, d2] => { results := [.lit (.bool true)], args := [d1, d2] }
  | _ => none }
def fnExactFormatPauliRow : OpenClaim := { program := "ythniclfkbjpimaa", sum := "50dc5ec0572dc2ce74f54766d23c3c57b111b63b86056fdc69a297a65149dbf8", func := "loop.example/g00864/laws.FnExactFormatPauli", spec := "fnExactFormatPauli", apart := false }
def FnExactFormatPauliSaid : Prop := fnExactFormatPauliRow.holds Try.pinned (OpenSpec.ofChange fnExactFormatPauliSpec)

/-- ITS FALSE NEIGHBOUR: 'it returns false'. Refute it at one input. -/
def fnExactFormatPauliWrong : ChangeSpec := { name := "fnExactFormatPauli", fn := fun _ => fun
  | [d1, d2] => { results := [.lit (.bool false)], args := [d1, d2] }
  | _ => none }
def FnExactFormatPauliWrongFalsely : Prop := fnExactFormatPauliRow.holds Try.pinned (OpenSpec.ofChange fnExactFormatPauliWrong)

/-- 'laws.FnExactRealSign': WHATEVER THE INPUT: true; the input reads as it did. -/
def fnExactRealSignSpec : ChangeSpec := { name := "fnExactRealSign", fn := fun _ => fun
  | [d1, d2] => { results := [.lit (.bool true)], args := [d1, d2] }
  | _ => none }
def fnExactRealSignRow : OpenClaim := { program := "ythniclfkbjpimaa", sum := "50dc5ec0572dc2ce74f54766d23c3c57b111b63b86056fdc69a297a65149dbf8", func := "loop.example/g00864/laws.FnExactRealSign", spec := "fnExactRealSign", apart := false }
def FnExactRealSignSaid : Prop := fnExactRealSignRow.holds Try.pinned (OpenSpec.ofChange fnExactRealSignSpec)

/-- ITS FALSE NEIGHBOUR: 'it returns false'. Refute it at one input. -/
def fnExactRealSignWrong : ChangeSpec := { name := "fnExactRealSign", fn := fun _ => fun
  | [d1, d2] => { results := [.lit (.bool false)], args := [d1, d2] }
  | _ => none }
def FnExactRealSignWrongFalsely : Prop := fnExactRealSignRow.holds Try.pinned (OpenSpec.ofChange fnExactRealSignWrong)

/-- 'laws.FnExactPhaseOf': WHATEVER THE INPUT: true; the input reads as it did. -/
def fnExactPhaseOfSpec : ChangeSpec := { name := "fnExactPhaseOf", fn := fun _ => fun
  | [d] => { results := [.lit (.bool true)], args := [d] }
  | _ => none }
def fnExactPhaseOfRow : OpenClaim := { program := "ythniclfkbjpimaa", sum := "50dc5ec0572dc2ce74f54766d23c3c57b111b63b86056fdc69a297a65149dbf8", func := "loop.example/g00864/laws.FnExactPhaseOf", spec := "fnExactPhaseOf", apart := false }
def FnExactPhaseOfSaid : Prop := fnExactPhaseOfRow.holds Try.pinned (OpenSpec.ofChange fnExactPhaseOfSpec)

/-- ITS FALSE NEIGHBOUR: 'it returns false'. Refute it at one input. -/
def fnExactPhaseOfWrong : ChangeSpec := { name := "fnExactPhaseOf", fn := fun _ => fun
  | [d] => { results := [.lit (.bool false)], args := [d] }
  | _ => none }
def FnExactPhaseOfWrongFalsely : Prop := fnExactPhaseOfRow.holds Try.pinned (OpenSpec.ofChange fnExactPhaseOfWrong)

/-- 'laws.FnExactInverseGate': WHATEVER THE INPUT: true; the input reads as it did. -/
def fnExactInverseGateSpec : ChangeSpec := { name := "fnExactInverseGate", fn := fun _ => fun
  | [d] => { results := [.lit (.bool true)], args := [d] }
  | _ => none }
def fnExactInverseGateRow : OpenClaim := { program := "ythniclfkbjpimaa", sum := "50dc5ec0572dc2ce74f54766d23c3c57b111b63b86056fdc69a297a65149dbf8", func := "loop.example/g00864/laws.FnExactInverseGate", spec := "fnExactInverseGate", apart := false }
def FnExactInverseGateSaid : Prop := fnExactInverseGateRow.holds Try.pinned (OpenSpec.ofChange fnExactInverseGateSpec)

/-- ITS FALSE NEIGHBOUR: 'it returns false'. Refute it at one input. -/
def fnExactInverseGateWrong : ChangeSpec := { name := "fnExactInverseGate", fn := fun _ => fun
  | [d] => { results := [.lit (.bool false)], args := [d] }
  | _ => none }
def FnExactInverseGateWrongFalsely : Prop := fnExactInverseGateRow.holds Try.pinned (OpenSpec.ofChange fnExactInverseGateWrong)

/-- 'laws.FnExactCommute': WHATEVER THE INPUT: true; the input reads as it did. -/
def fnExactCommuteSpec : ChangeSpec := { name := "fnExactCommute", fn := fun _ => fun
  | [d1, d2, d3] => { results := [.lit (.bool true)], args := [d1, d2, d3] }
  | _ => none }
def fnExactCommuteRow : OpenClaim := { program := "ythniclfkbjpimaa", sum := "50dc5ec0572dc2ce74f54766d23c3c57b111b63b86056fdc69a297a65149dbf8", func := "loop.example/g00864/laws.FnExactCommute", spec := "fnExactCommute", apart := false }
def FnExactCommuteSaid : Prop := fnExactCommuteRow.holds Try.pinned (OpenSpec.ofChange fnExactCommuteSpec)

/-- ITS FALSE NEIGHBOUR: 'it returns false'. Refute it at one input. -/
def fnExactCommuteWrong : ChangeSpec := { name := "fnExactCommute", fn := fun _ => fun
  | [d1, d2, d3] => { results := [.lit (.bool false)], args := [d1, d2, d3] }
  | _ => none }
def FnExactCommuteWrongFalsely : Prop := fnExactCommuteRow.holds Try.pinned (OpenSpec.ofChange fnExactCommuteWrong)

/-- 'laws.FnExactConjDyadic': WHATEVER THE INPUT: true; the input reads as it did. -/
def fnExactConjDyadicSpec : ChangeSpec := { name := "fnExactConjDyadic", fn := fun _ => fun
  | [d] => { results := [.lit (.bool true)], args := [d] }
  | _ => none }
def fnExactConjDyadicRow : OpenClaim := { program := "ythniclfkbjpimaa", sum := "50dc5ec0572dc2ce74f54766d23c3c57b111b63b86056fdc69a297a65149dbf8", func := "loop.example/g00864/laws.FnExactConjDyadic", spec := "fnExactConjDyadic", apart := false }
def FnExactConjDyadicSaid : Prop := fnExactConjDyadicRow.holds Try.pinned (OpenSpec.ofChange fnExactConjDyadicSpec)

/-- ITS FALSE NEIGHBOUR: 'it returns false'. Refute it at one input. -/
def fnExactConjDyadicWrong : ChangeSpec := { name := "fnExactConjDyadic", fn := fun _ => fun
  | [d] => { results := [.lit (.bool false)], args := [d] }
  | _ => none }
def FnExactConjDyadicWrongFalsely : Prop := fnExactConjDyadicRow.holds Try.pinned (OpenSpec.ofChange fnExactConjDyadicWrong)

/-- 'laws.FnExactDyadicOf': WHATEVER THE INPUT: true; the input reads as it did. -/
def fnExactDyadicOfSpec : ChangeSpec := { name := "fnExactDyadicOf", fn := fun _ => fun
  | [d1, d2] => { results := [.lit (.bool true)], args := [d1, d2] }
  | _ => none }
def fnExactDyadicOfRow : OpenClaim := { program := "ythniclfkbjpimaa", sum := "50dc5ec0572dc2ce74f54766d23c3c57b111b63b86056fdc69a297a65149dbf8", func := "loop.example/g00864/laws.FnExactDyadicOf", spec := "fnExactDyadicOf", apart := false }
def FnExactDyadicOfSaid : Prop := fnExactDyadicOfRow.holds Try.pinned (OpenSpec.ofChange fnExactDyadicOfSpec)

/-- ITS FALSE NEIGHBOUR: 'it returns false'. Refute it at one input. -/
def fnExactDyadicOfWrong : ChangeSpec := { name := "fnExactDyadicOf", fn := fun _ => fun
  | [d1, d2] => { results := [.lit (.bool false)], args := [d1, d2] }
  | _ => none }
def FnExactDyadicOfWrongFalsely : Prop := fnExactDyadicOfRow.holds Try.pinned (OpenSpec.ofChange fnExactDyadicOfWrong)

/-- 'laws.FnExactMulPauli': WHATEVER THE INPUT: true; the input reads as it did. -/
def fnExactMulPauliSpec : ChangeSpec := { name := "fnExactMulPauli", fn := fun _ => fun
  | [d1, d2, d3] => { results := [.lit (.bool true)], args := [d1, d2, d3] }
  | _ => none }
def fnExactMulPauliRow : OpenClaim := { program := "ythniclfkbjpimaa", sum := "50dc5ec0572dc2ce74f54766d23c3c57b111b63b86056fdc69a297a65149dbf8", func := "loop.example/g00864/laws.FnExactMulPauli", spec := "fnExactMulPauli", apart := false }
def FnExactMulPauliSaid : Prop := fnExactMulPauliRow.holds Try.pinned (OpenSpec.ofChange fnExactMulPauliSpec)

/-- ITS FALSE NEIGHBOUR: 'it returns false'. Refute it at one input. -/
def fnExactMulPauliWrong : ChangeSpec := { name := "fnExactMulPauli", fn := fun _ => fun
  | [d1, d2, d3] => { results := [.lit (.bool false)], args := [d1, d2, d3] }
  | _ => none }
def FnExactMulPauliWrongFalsely : Prop := fnExactMulPauliRow.holds Try.pinned (OpenSpec.ofChange fnExactMulPauliWrong)

/- THE SECOND FORM. 'bulk': how many values and letters a reading holds, each counted each time it is reached (what is shared counts as often as it is met; a slice's spare places count too). A statement '..UptoSaid' is the law's where the arguments, and the package variables that the reading takes, are together of bulk at most 1048576: NARROWER than '..Said'. Prove '..Said' where nothing that the law and all that it calls make is longer than what came in: it says more and counts as full. Else prove '..UptoSaid'. A law counts once. -/
mutual
def uptoBulk {H : Type} : DataW H → Nat
  | .lit (.string bytes) => bytes.length + 1
  | .lit _ => 1
  | .nil => 1
  | .ptr d => uptoBulk d + 1
  | .slice elems spare => uptoBulkAll elems + uptoBulkAll spare + 1
  | .agg parts => uptoBulkAll parts + 1
  | .iface _ d => uptoBulk d + 1
  | .map entries => uptoBulkEntries entries + 1
  | .held _ => 1
def uptoBulkAll {H : Type} : List (DataW H) → Nat
  | [] => 0
  | d :: r => uptoBulk d + uptoBulkAll r
def uptoBulkEntries {H : Type} : List (Lit × DataW H) → Nat
  | [] => 0
  | x :: r => uptoBulkEntry x + uptoBulkEntries r
def uptoBulkEntry {H : Type} : Lit × DataW H → Nat
  | (.string bytes, d) => bytes.length + uptoBulk d + 1
  | (_, d) => uptoBulk d + 1
 end
def uptoSmall : (H : Type) → List (DataW H) → Bool := fun _ ds => decide (uptoBulkAll ds ≤ 1048576)
def OpenSpec.upto (s : _root_.Go.ChangeSpec) : _root_.Go.OpenSpec := { _root_.Go.OpenSpec.ofChange s with cond := some uptoSmall }

/-- 'laws.FnExactIsValidPauli', WHERE WHAT IT READS IS OF BULK AT MOST 1048576: true; the input reads as it did. -/
def fnExactIsValidPauliUptoRow : OpenClaim := { program := "ythniclfkbjpimaa", sum := "50dc5ec0572dc2ce74f54766d23c3c57b111b63b86056fdc69a297a65149dbf8", func := "loop.example/g00864/laws.FnExactIsValidPauli", spec := "fnExactIsValidPauli", apart := false, narrowed := true }
def FnExactIsValidPauliUptoSaid : Prop := fnExactIsValidPauliUptoRow.holds Try.pinned (OpenSpec.upto fnExactIsValidPauliSpec)

/-- 'laws.FnExactIsSubcircuitName', WHERE WHAT IT READS IS OF BULK AT MOST 1048576: true; the input reads as it did. -/
def fnExactIsSubcircuitNameUptoRow : OpenClaim := { program := "ythniclfkbjpimaa", sum := "50dc5ec0572dc2ce74f54766d23c3c57b111b63b86056fdc69a297a65149dbf8", func := "loop.example/g00864/laws.FnExactIsSubcircuitName", spec := "fnExactIsSubcircuitName", apart := false, narrowed := true }
def FnExactIsSubcircuitNameUptoSaid : Prop := fnExactIsSubcircuitNameUptoRow.holds Try.pinned (OpenSpec.upto fnExactIsSubcircuitNameSpec)

/-- 'laws.FnExactIsValidGate', WHERE WHAT IT READS IS OF BULK AT MOST 1048576: true; the input reads as it did. -/
def fnExactIsValidGateUptoRow : OpenClaim := { program := "ythniclfkbjpimaa", sum := "50dc5ec0572dc2ce74f54766d23c3c57b111b63b86056fdc69a297a65149dbf8", func := "loop.example/g00864/laws.FnExactIsValidGate", spec := "fnExactIsValidGate", apart := false, narrowed := true }
def FnExactIsValidGateUptoSaid : Prop := fnExactIsValidGateUptoRow.holds Try.pinned (OpenSpec.upto fnExactIsValidGateSpec)

/-- 'laws.FnExactIsValidDyadic', WHERE WHAT IT READS IS OF BULK AT MOST 1048576: true; the input reads as it did. -/
def fnExactIsValidDyadicUptoRow : OpenClaim := { program := "ythniclfkbjpimaa", sum := "50dc5ec0572dc2ce74f54766d23c3c57b111b63b86056fdc69a297a65149dbf8", func := "loop.example/g00864/laws.FnExactIsValidDyadic", spec := "fnExactIsValidDyadic", apart := false, narrowed := true }
def FnExactIsValidDyadicUptoSaid : Prop := fnExactIsValidDyadicUptoRow.holds Try.pinned (OpenSpec.upto fnExactIsValidDyadicSpec)

/-- 'laws.FnExactFormatPauli', WHERE WHAT IT READS IS OF BULK AT MOST 1048576: true; the input reads as it did. -/
def fnExactFormatPauliUptoRow : OpenClaim := { program := "ythniclfkbjpimaa", sum := "50dc5ec0572dc2ce74f54766d23c3c57b111b63b86056fdc69a297a65149dbf8", func := "loop.example/g00864/laws.FnExactFormatPauli", spec := "fnExactFormatPauli", apart := false, narrowed := true }
def FnExactFormatPauliUptoSaid : Prop := fnExactFormatPauliUptoRow.holds Try.pinned (OpenSpec.upto fnExactFormatPauliSpec)

/-- 'laws.FnExactRealSign', WHERE WHAT IT READS IS OF BULK AT MOST 1048576: true; the input reads as it did. -/
def fnExactRealSignUptoRow : OpenClaim := { program := "ythniclfkbjpimaa", sum := "50dc5ec0572dc2ce74f54766d23c3c57b111b63b86056fdc69a297a65149dbf8", func := "loop.example/g00864/laws.FnExactRealSign", spec := "fnExactRealSign", apart := false, narrowed := true }
def FnExactRealSignUptoSaid : Prop := fnExactRealSignUptoRow.holds Try.pinned (OpenSpec.upto fnExactRealSignSpec)

/-- 'laws.FnExactPhaseOf', WHERE WHAT IT READS IS OF BULK AT MOST 1048576: true; the input reads as it did. -/
def fnExactPhaseOfUptoRow : OpenClaim := { program := "ythniclfkbjpimaa", sum := "50dc5ec0572dc2ce74f54766d23c3c57b111b63b86056fdc69a297a65149dbf8", func := "loop.example/g00864/laws.FnExactPhaseOf", spec := "fnExactPhaseOf", apart := false, narrowed := true }
def FnExactPhaseOfUptoSaid : Prop := fnExactPhaseOfUptoRow.holds Try.pinned (OpenSpec.upto fnExactPhaseOfSpec)

/-- 'laws.FnExactInverseGate', WHERE WHAT IT READS IS OF BULK AT MOST 1048576: true; the input reads as it did. -/
def fnExactInverseGateUptoRow : OpenClaim := { program := "ythniclfkbjpimaa", sum := "50dc5ec0572dc2ce74f54766d23c3c57b111b63b86056fdc69a297a65149dbf8", func := "loop.example/g00864/laws.FnExactInverseGate", spec := "fnExactInverseGate", apart := false, narrowed := true }
def FnExactInverseGateUptoSaid : Prop := fnExactInverseGateUptoRow.holds Try.pinned (OpenSpec.upto fnExactInverseGateSpec)

/-- 'laws.FnExactCommute', WHERE WHAT IT READS IS OF BULK AT MOST 1048576: true; the input reads as it did. -/
def fnExactCommuteUptoRow : OpenClaim := { program := "ythniclfkbjpimaa", sum := "50dc5ec0572dc2ce74f54766d23c3c57b111b63b86056fdc69a297a65149dbf8", func := "loop.example/g00864/laws.FnExactCommute", spec := "fnExactCommute", apart := false, narrowed := true }
def FnExactCommuteUptoSaid : Prop := fnExactCommuteUptoRow.holds Try.pinned (OpenSpec.upto fnExactCommuteSpec)

/-- 'laws.FnExactConjDyadic', WHERE WHAT IT READS IS OF BULK AT MOST 1048576: true; the input reads as it did. -/
def fnExactConjDyadicUptoRow : OpenClaim := { program := "ythniclfkbjpimaa", sum := "50dc5ec0572dc2ce74f54766d23c3c57b111b63b86056fdc69a297a65149dbf8", func := "loop.example/g00864/laws.FnExactConjDyadic", spec := "fnExactConjDyadic", apart := false, narrowed := true }
def FnExactConjDyadicUptoSaid : Prop := fnExactConjDyadicUptoRow.holds Try.pinned (OpenSpec.upto fnExactConjDyadicSpec)

/-- 'laws.FnExactDyadicOf', WHERE WHAT IT READS IS OF BULK AT MOST 1048576: true; the input reads as it did. -/
def fnExactDyadicOfUptoRow : OpenClaim := { program := "ythniclfkbjpimaa", sum := "50dc5ec0572dc2ce74f54766d23c3c57b111b63b86056fdc69a297a65149dbf8", func := "loop.example/g00864/laws.FnExactDyadicOf", spec := "fnExactDyadicOf", apart := false, narrowed := true }
def FnExactDyadicOfUptoSaid : Prop := fnExactDyadicOfUptoRow.holds Try.pinned (OpenSpec.upto fnExactDyadicOfSpec)

/-- 'laws.FnExactMulPauli', WHERE WHAT IT READS IS OF BULK AT MOST 1048576: true; the input reads as it did. -/
def fnExactMulPauliUptoRow : OpenClaim := { program := "ythniclfkbjpimaa", sum := "50dc5ec0572dc2ce74f54766d23c3c57b111b63b86056fdc69a297a65149dbf8", func := "loop.example/g00864/laws.FnExactMulPauli", spec := "fnExactMulPauli", apart := false, narrowed := true }
def FnExactMulPauliUptoSaid : Prop := fnExactMulPauliUptoRow.holds Try.pinned (OpenSpec.upto fnExactMulPauliSpec)

end Rows
end Go.Proofs.Ythniclfkbjpimaa
