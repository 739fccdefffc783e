/-
  No cell of these rows narrows 'for every input' (looked for: loops, veiled, ifaces, maps, wideKeys, modest, calm, conditions, laid).
  DERIVED. THE GIVEN ROWS OF THIS SEAT. 12 by the template 'for every input the law returns true; each argument reads behind the call as it read before'; 0 by the template 'total and deterministic' (their statements: YtpogpooomdpomaaTotals.lean).
  GIVEN WITH THE SEED: the statements are not yours to turn. If you find one false, say at which input.
  Laid BY PROGRAM, IN A SANDBOX (cutbox-rows.mjs): the forced cells as the released guide's own fill.sh prints them over the translation ee019b4e5a4e07e6… (all of the seat's roots in one cut). By AI agents, Wed Nov 11 2026. No macro, syntax, notation, axiom, sorry.
-/
import Derived.Test.YtpogpooomdpomaaChecked
import GoSem.Claim
import GoSem.ClaimJoined
import GoSem.ClaimMapViews
import Derived.JoinedTies
import Derived.KernelRfl
namespace Go.Proofs.Ytpogpooomdpomaa
/- THE CELL 'sum', in the pinned program and in every row, IS THE sha256 OF THE DUMP (.gsa) THAT YtpogpooomdpomaaProg.lean LOADS. Nothing in Lean hashes anything: it is a label: what it is worth is what the hold of that sum in a sandbox is worth. -/
noncomputable def Try.pinned : Pinned := { name := "ytpogpooomdpomaa", sum := "ee019b4e5a4e07e6f143df0999dcf32b22ba22ad9171bebd85f0f8cfd74202c7", checked := Try.checked }
namespace Rows
def none {H : Type} : Left H := { results := [], args := [] }

/-- 'laws.FnExactConstants': WHATEVER THE INPUT: true; the input reads as it did. -/
def fnExactConstantsSpec : ChangeSpec := { name := "fnExactConstants", fn := fun _ => fun
  | [] => { results := [.lit (.bool true)], args := [] }
  | _ => none }
def fnExactConstantsRow : OpenClaim := { program := "ytpogpooomdpomaa", sum := "ee019b4e5a4e07e6f143df0999dcf32b22ba22ad9171bebd85f0f8cfd74202c7", func := "loop.example/g00864/laws.FnExactConstants", spec := "fnExactConstants", apart := false }
def FnExactConstantsSaid : Prop := fnExactConstantsRow.holds Try.pinned (OpenSpec.ofChange fnExactConstantsSpec)

/-- ITS FALSE NEIGHBOUR: 'it returns false'. Refute it at one input. -/
def fnExactConstantsWrong : ChangeSpec := { name := "fnExactConstants", fn := fun _ => fun
  | [] => { results := [.lit (.bool false)], args := [] }
  | _ => none }
def FnExactConstantsWrongFalsely : Prop := fnExactConstantsRow.holds Try.pinned (OpenSpec.ofChange fnExactConstantsWrong)

/-- 'laws.FnExactIsValidRing': WHATEVER THE INPUT: true; the input reads as it did. -/
def fnExactIsValidRingSpec : ChangeSpec := { name := "fnExactIsValidRing", fn := fun _ => fun
  | [d] => { results := [.lit (.bool true)], args := [d] }
  | _ => none }
def fnExactIsValidRingRow : OpenClaim := { program := "ytpogpooomdpomaa", sum := "ee019b4e5a4e07e6f143df0999dcf32b22ba22ad9171bebd85f0f8cfd74202c7", func := "loop.example/g00864/laws.FnExactIsValidRing", spec := "fnExactIsValidRing", apart := false }
def FnExactIsValidRingSaid : Prop := fnExactIsValidRingRow.holds Try.pinned (OpenSpec.ofChange fnExactIsValidRingSpec)

/-- ITS FALSE NEIGHBOUR: 'it returns false'. Refute it at one input. -/
def fnExactIsValidRingWrong : ChangeSpec := { name := "fnExactIsValidRing", fn := fun _ => fun
  | [d] => { results := [.lit (.bool false)], args := [d] }
  | _ => none }
def FnExactIsValidRingWrongFalsely : Prop := fnExactIsValidRingRow.holds Try.pinned (OpenSpec.ofChange fnExactIsValidRingWrong)

/-- 'laws.FnExactAbsSquare': WHATEVER THE INPUT: true; the input reads as it did. -/
def fnExactAbsSquareSpec : ChangeSpec := { name := "fnExactAbsSquare", fn := fun _ => fun
  | [d] => { results := [.lit (.bool true)], args := [d] }
  | _ => none }
def fnExactAbsSquareRow : OpenClaim := { program := "ytpogpooomdpomaa", sum := "ee019b4e5a4e07e6f143df0999dcf32b22ba22ad9171bebd85f0f8cfd74202c7", func := "loop.example/g00864/laws.FnExactAbsSquare", spec := "fnExactAbsSquare", apart := false }
def FnExactAbsSquareSaid : Prop := fnExactAbsSquareRow.holds Try.pinned (OpenSpec.ofChange fnExactAbsSquareSpec)

/-- ITS FALSE NEIGHBOUR: 'it returns false'. Refute it at one input. -/
def fnExactAbsSquareWrong : ChangeSpec := { name := "fnExactAbsSquare", fn := fun _ => fun
  | [d] => { results := [.lit (.bool false)], args := [d] }
  | _ => none }
def FnExactAbsSquareWrongFalsely : Prop := fnExactAbsSquareRow.holds Try.pinned (OpenSpec.ofChange fnExactAbsSquareWrong)

/-- 'laws.FnExactBullet': WHATEVER THE INPUT: true; the input reads as it did. -/
def fnExactBulletSpec : ChangeSpec := { name := "fnExactBullet", fn := fun _ => fun
  | [d] => { results := [.lit (.bool true)], args := [d] }
  | _ => none }
def fnExactBulletRow : OpenClaim := { program := "ytpogpooomdpomaa", sum := "ee019b4e5a4e07e6f143df0999dcf32b22ba22ad9171bebd85f0f8cfd74202c7", func := "loop.example/g00864/laws.FnExactBullet", spec := "fnExactBullet", apart := false }
def FnExactBulletSaid : Prop := fnExactBulletRow.holds Try.pinned (OpenSpec.ofChange fnExactBulletSpec)

/-- ITS FALSE NEIGHBOUR: 'it returns false'. Refute it at one input. -/
def fnExactBulletWrong : ChangeSpec := { name := "fnExactBullet", fn := fun _ => fun
  | [d] => { results := [.lit (.bool false)], args := [d] }
  | _ => none }
def FnExactBulletWrongFalsely : Prop := fnExactBulletRow.holds Try.pinned (OpenSpec.ofChange fnExactBulletWrong)

/-- 'laws.FnExactConjugate': WHATEVER THE INPUT: true; the input reads as it did. -/
def fnExactConjugateSpec : ChangeSpec := { name := "fnExactConjugate", fn := fun _ => fun
  | [d] => { results := [.lit (.bool true)], args := [d] }
  | _ => none }
def fnExactConjugateRow : OpenClaim := { program := "ytpogpooomdpomaa", sum := "ee019b4e5a4e07e6f143df0999dcf32b22ba22ad9171bebd85f0f8cfd74202c7", func := "loop.example/g00864/laws.FnExactConjugate", spec := "fnExactConjugate", apart := false }
def FnExactConjugateSaid : Prop := fnExactConjugateRow.holds Try.pinned (OpenSpec.ofChange fnExactConjugateSpec)

/-- ITS FALSE NEIGHBOUR: 'it returns false'. Refute it at one input. -/
def fnExactConjugateWrong : ChangeSpec := { name := "fnExactConjugate", fn := fun _ => fun
  | [d] => { results := [.lit (.bool false)], args := [d] }
  | _ => none }
def FnExactConjugateWrongFalsely : Prop := fnExactConjugateRow.holds Try.pinned (OpenSpec.ofChange fnExactConjugateWrong)

/-- 'laws.FnExactNormOf': WHATEVER THE INPUT: true; the input reads as it did. -/
def fnExactNormOfSpec : ChangeSpec := { name := "fnExactNormOf", fn := fun _ => fun
  | [d] => { results := [.lit (.bool true)], args := [d] }
  | _ => none }
def fnExactNormOfRow : OpenClaim := { program := "ytpogpooomdpomaa", sum := "ee019b4e5a4e07e6f143df0999dcf32b22ba22ad9171bebd85f0f8cfd74202c7", func := "loop.example/g00864/laws.FnExactNormOf", spec := "fnExactNormOf", apart := false }
def FnExactNormOfSaid : Prop := fnExactNormOfRow.holds Try.pinned (OpenSpec.ofChange fnExactNormOfSpec)

/-- ITS FALSE NEIGHBOUR: 'it returns false'. Refute it at one input. -/
def fnExactNormOfWrong : ChangeSpec := { name := "fnExactNormOf", fn := fun _ => fun
  | [d] => { results := [.lit (.bool false)], args := [d] }
  | _ => none }
def FnExactNormOfWrongFalsely : Prop := fnExactNormOfRow.holds Try.pinned (OpenSpec.ofChange fnExactNormOfWrong)

/-- 'laws.FnExactMulOmega': WHATEVER THE INPUT: true; the input reads as it did. -/
def fnExactMulOmegaSpec : ChangeSpec := { name := "fnExactMulOmega", fn := fun _ => fun
  | [d1, d2] => { results := [.lit (.bool true)], args := [d1, d2] }
  | _ => none }
def fnExactMulOmegaRow : OpenClaim := { program := "ytpogpooomdpomaa", sum := "ee019b4e5a4e07e6f143df0999dcf32b22ba22ad9171bebd85f0f8cfd74202c7", func := "loop.example/g00864/laws.FnExactMulOmega", spec := "fnExactMulOmega", apart := false }
def FnExactMulOmegaSaid : Prop := fnExactMulOmegaRow.holds Try.pinned (OpenSpec.ofChange fnExactMulOmegaSpec)

/-- ITS FALSE NEIGHBOUR: 'it returns false'. Refute it at one input. -/
def fnExactMulOmegaWrong : ChangeSpec := { name := "fnExactMulOmega", fn := fun _ => fun
  | [d1, d2] => { results := [.lit (.bool false)], args := [d1, d2] }
  | _ => none }
def FnExactMulOmegaWrongFalsely : Prop := fnExactMulOmegaRow.holds Try.pinned (OpenSpec.ofChange fnExactMulOmegaWrong)

/-- 'laws.FnExactAddRing': WHATEVER THE INPUT: true; the input reads as it did. -/
def fnExactAddRingSpec : ChangeSpec := { name := "fnExactAddRing", fn := fun _ => fun
  | [d1, d2] => { results := [.lit (.bool true)], args := [d1, d2] }
  | _ => none }
def fnExactAddRingRow : OpenClaim := { program := "ytpogpooomdpomaa", sum := "ee019b4e5a4e07e6f143df0999dcf32b22ba22ad9171bebd85f0f8cfd74202c7", func := "loop.example/g00864/laws.FnExactAddRing", spec := "fnExactAddRing", apart := false }
def FnExactAddRingSaid : Prop := fnExactAddRingRow.holds Try.pinned (OpenSpec.ofChange fnExactAddRingSpec)

/-- ITS FALSE NEIGHBOUR: 'it returns false'. Refute it at one input. -/
def fnExactAddRingWrong : ChangeSpec := { name := "fnExactAddRing", fn := fun _ => fun
  | [d1, d2] => { results := [.lit (.bool false)], args := [d1, d2] }
  | _ => none }
def FnExactAddRingWrongFalsely : Prop := fnExactAddRingRow.holds Try.pinned (OpenSpec.ofChange fnExactAddRingWrong)

/-- 'laws.FnExactMulRootTwo': WHATEVER THE INPUT: true; the input reads as it did. -/
def fnExactMulRootTwoSpec : ChangeSpec := { name := "fnExactMulRootTwo", fn := fun _ => fun
  | [d] => { results := [.lit (.bool true)], args := [d] }
  | _ => none }
def fnExactMulRootTwoRow : OpenClaim := { program := "ytpogpooomdpomaa", sum := "ee019b4e5a4e07e6f143df0999dcf32b22ba22ad9171bebd85f0f8cfd74202c7", func := "loop.example/g00864/laws.FnExactMulRootTwo", spec := "fnExactMulRootTwo", apart := false }
def FnExactMulRootTwoSaid : Prop := fnExactMulRootTwoRow.holds Try.pinned (OpenSpec.ofChange fnExactMulRootTwoSpec)

/-- ITS FALSE NEIGHBOUR: 'it returns false'. Refute it at one input. -/
def fnExactMulRootTwoWrong : ChangeSpec := { name := "fnExactMulRootTwo", fn := fun _ => fun
  | [d] => { results := [.lit (.bool false)], args := [d] }
  | _ => none }
def FnExactMulRootTwoWrongFalsely : Prop := fnExactMulRootTwoRow.holds Try.pinned (OpenSpec.ofChange fnExactMulRootTwoWrong)

/-- 'laws.FnExactSubRing': WHATEVER THE INPUT: true; the input reads as it did. -/
def fnExactSubRingSpec : ChangeSpec := { name := "fnExactSubRing", fn := fun _ => fun
  | [d1, d2] => { results := [.lit (.bool true)], args := [d1, d2] }
  | _ => none }
def fnExactSubRingRow : OpenClaim := { program := "ytpogpooomdpomaa", sum := "ee019b4e5a4e07e6f143df0999dcf32b22ba22ad9171bebd85f0f8cfd74202c7", func := "loop.example/g00864/laws.FnExactSubRing", spec := "fnExactSubRing", apart := false }
def FnExactSubRingSaid : Prop := fnExactSubRingRow.holds Try.pinned (OpenSpec.ofChange fnExactSubRingSpec)

/-- ITS FALSE NEIGHBOUR: 'it returns false'. Refute it at one input. -/
def fnExactSubRingWrong : ChangeSpec := { name := "fnExactSubRing", fn := fun _ => fun
  | [d1, d2] => { results := [.lit (.bool false)], args := [d1, d2] }
  | _ => none }
def FnExactSubRingWrongFalsely : Prop := fnExactSubRingRow.holds Try.pinned (OpenSpec.ofChange fnExactSubRingWrong)

/-- 'laws.FnExactDivRootTwo': WHATEVER THE INPUT: true; the input reads as it did. -/
def fnExactDivRootTwoSpec : ChangeSpec := { name := "fnExactDivRootTwo", fn := fun _ => fun
  | [d] => { results := [.lit (.bool true)], args := [d] }
  | _ => none }
def fnExactDivRootTwoRow : OpenClaim := { program := "ytpogpooomdpomaa", sum := "ee019b4e5a4e07e6f143df0999dcf32b22ba22ad9171bebd85f0f8cfd74202c7", func := "loop.example/g00864/laws.FnExactDivRootTwo", spec := "fnExactDivRootTwo", apart := false }
def FnExactDivRootTwoSaid : Prop := fnExactDivRootTwoRow.holds Try.pinned (OpenSpec.ofChange fnExactDivRootTwoSpec)

/-- ITS FALSE NEIGHBOUR: 'it returns false'. Refute it at one input. -/
def fnExactDivRootTwoWrong : ChangeSpec := { name := "fnExactDivRootTwo", fn := fun _ => fun
  | [d] => { results := [.lit (.bool false)], args := [d] }
  | _ => none }
def FnExactDivRootTwoWrongFalsely : Prop := fnExactDivRootTwoRow.holds Try.pinned (OpenSpec.ofChange fnExactDivRootTwoWrong)

/-- 'laws.FnExactMulRing': WHATEVER THE INPUT: true; the input reads as it did. -/
def fnExactMulRingSpec : ChangeSpec := { name := "fnExactMulRing", fn := fun _ => fun
  | [d1, d2] => { results := [.lit (.bool true)], args := [d1, d2] }
  | _ => none }
def fnExactMulRingRow : OpenClaim := { program := "ytpogpooomdpomaa", sum := "ee019b4e5a4e07e6f143df0999dcf32b22ba22ad9171bebd85f0f8cfd74202c7", func := "loop.example/g00864/laws.FnExactMulRing", spec := "fnExactMulRing", apart := false }
def FnExactMulRingSaid : Prop := fnExactMulRingRow.holds Try.pinned (OpenSpec.ofChange fnExactMulRingSpec)

/-- ITS FALSE NEIGHBOUR: 'it returns false'. Refute it at one input. -/
def fnExactMulRingWrong : ChangeSpec := { name := "fnExactMulRing", fn := fun _ => fun
  | [d1, d2] => { results := [.lit (.bool false)], args := [d1, d2] }
  | _ => none }
def FnExactMulRingWrongFalsely : Prop := fnExactMulRingRow.holds Try.pinned (OpenSpec.ofChange fnExactMulRingWrong)

/- THE SECOND FORM. 'bulk': how many values and letters a reading holds, each counted each time it is reached (what is shared counts as often as it is met; a slice's spare places count too). A statement '..UptoSaid' is the law's where the arguments, and the package variables that the reading takes, are together of bulk at most 1048576: NARROWER than '..Said'. Prove '..Said' where nothing that the law and all that it calls make is longer than what came in: it says more and counts as full. Else prove '..UptoSaid'. A law counts once. -/
mutual
def uptoBulk {H : Type} : DataW H → Nat
  | .lit (.string bytes) => bytes.length + 1
  | .lit _ => 1
  | .nil => 1
  | .ptr d => uptoBulk d + 1
  | .slice elems spare => uptoBulkAll elems + uptoBulkAll spare + 1
  | .agg parts => uptoBulkAll parts + 1
  | .iface _ d => uptoBulk d + 1
  | .map entries => uptoBulkEntries entries + 1
  | .held _ => 1
def uptoBulkAll {H : Type} : List (DataW H) → Nat
  | [] => 0
  | d :: r => uptoBulk d + uptoBulkAll r
def uptoBulkEntries {H : Type} : List (Lit × DataW H) → Nat
  | [] => 0
  | x :: r => uptoBulkEntry x + uptoBulkEntries r
def uptoBulkEntry {H : Type} : Lit × DataW H → Nat
  | (.string bytes, d) => bytes.length + uptoBulk d + 1
  | (_, d) => uptoBulk d + 1
 end
def uptoSmall : (H : Type) → List (DataW H) → Bool := fun _ ds => decide (uptoBulkAll ds ≤ 1048576)
def OpenSpec.upto (s : _root_.Go.ChangeSpec) : _root_.Go.OpenSpec := { _root_.Go.OpenSpec.ofChange s with cond := some uptoSmall }

/-- 'laws.FnExactConstants', WHERE WHAT IT READS IS OF BULK AT MOST 1048576: true; the input reads as it did. -/
def fnExactConstantsUptoRow : OpenClaim := { program := "ytpogpooomdpomaa", sum := "ee019b4e5a4e07e6f143df0999dcf32b22ba22ad9171bebd85f0f8cfd74202c7", func := "loop.example/g00864/laws.FnExactConstants", spec := "fnExactConstants", apart := false, narrowed := true }
def FnExactConstantsUptoSaid : Prop := fnExactConstantsUptoRow.holds Try.pinned (OpenSpec.upto fnExactConstantsSpec)

/-- 'laws.FnExactIsValidRing', WHERE WHAT IT READS IS OF BULK AT MOST 1048576: true; the input reads as it did. -/
def fnExactIsValidRingUptoRow : OpenClaim := { program := "ytpogpooomdpomaa", sum := "ee019b4e5a4e07e6f143df0999dcf32b22ba22ad9171bebd85f0f8cfd74202c7", func := "loop.example/g00864/laws.FnExactIsValidRing", spec := "fnExactIsValidRing", apart := false, narrowed := true }
def FnExactIsValidRingUptoSaid : Prop := fnExactIsValidRingUptoRow.holds Try.pinned (OpenSpec.upto fnExactIsValidRingSpec)

/-- 'laws.FnExactAbsSquare', WHERE WHAT IT READS IS OF BULK AT MOST 1048576: true; the input reads as it did. -/
def fnExactAbsSquareUptoRow : OpenClaim := { program := "ytpogpooomdpomaa", sum := "ee019b4e5a4e07e6f143df0999dcf32b22ba22ad9171bebd85f0f8cfd74202c7", func := "loop.example/g00864/laws.FnExactAbsSquare", spec := "fnExactAbsSquare", apart := false, narrowed := true }
def FnExactAbsSquareUptoSaid : Prop := fnExactAbsSquareUptoRow.holds Try.pinned (OpenSpec.upto fnExactAbsSquareSpec)

/-- 'laws.FnExactBullet', WHERE WHAT IT READS IS OF BULK AT MOST 1048576: true; the input reads as it did. -/
def fnExactBulletUptoRow : OpenClaim := { program := "ytpogpooomdpomaa", sum := "ee019b4e5a4e07e6f143df0999dcf32b22ba22ad9171bebd85f0f8cfd74202c7", func := "loop.example/g00864/laws.FnExactBullet", spec := "fnExactBullet", apart := false, narrowed := true }
def FnExactBulletUptoSaid : Prop := fnExactBulletUptoRow.holds Try.pinned (OpenSpec.upto fnExactBulletSpec)

/-- 'laws.FnExactConjugate', WHERE WHAT IT READS IS OF BULK AT MOST 1048576: true; the input reads as it did. -/
def fnExactConjugateUptoRow : OpenClaim := { program := "ytpogpooomdpomaa", sum := "ee019b4e5a4e07e6f143df0999dcf32b22ba22ad9171bebd85f0f8cfd74202c7", func := "loop.example/g00864/laws.FnExactConjugate", spec := "fnExactConjugate", apart := false, narrowed := true }
def FnExactConjugateUptoSaid : Prop := fnExactConjugateUptoRow.holds Try.pinned (OpenSpec.upto fnExactConjugateSpec)

/-- 'laws.FnExactNormOf', WHERE WHAT IT READS IS OF BULK AT MOST 1048576: true; the input reads as it did. -/
def fnExactNormOfUptoRow : OpenClaim := { program := "ytpogpooomdpomaa", sum := "ee019b4e5a4e07e6f143df0999dcf32b22ba22ad9171bebd85f0f8cfd74202c7", func := "loop.example/g00864/laws.FnExactNormOf", spec := "fnExactNormOf", apart := false, narrowed := true }
def FnExactNormOfUptoSaid : Prop := fnExactNormOfUptoRow.holds Try.pinned (OpenSpec.upto fnExactNormOfSpec)

/-- 'laws.FnExactMulOmega', WHERE WHAT IT READS IS OF BULK AT MOST 1048576: true; the input reads as it did. -/
def fnExactMulOmegaUptoRow : OpenClaim := { program := "ytpogpooomdpomaa", sum := "ee019b4e5a4e07e6f143df0999dcf32b22ba22ad9171bebd85f0f8cfd74202c7", func := "loop.example/g00864/laws.FnExactMulOmega", spec := "fnExactMulOmega", apart := false, narrowed := true }
def FnExactMulOmegaUptoSaid : Prop := fnExactMulOmegaUptoRow.holds Try.pinned (OpenSpec.upto fnExactMulOmegaSpec)

/-- 'laws.FnExactAddRing', WHERE WHAT IT READS IS OF BULK AT MOST 1048576: true; the input reads as it did. -/
def fnExactAddRingUptoRow : OpenClaim := { program := "ytpogpooomdpomaa", sum := "ee019b4e5a4e07e6f143df0999dcf32b22ba22ad9171bebd85f0f8cfd74202c7", func := "loop.example/g00864/laws.FnExactAddRing", spec := "fnExactAddRing", apart := false, narrowed := true }
def FnExactAddRingUptoSaid : Prop := fnExactAddRingUptoRow.holds Try.pinned (OpenSpec.upto fnExactAddRingSpec)

/-- 'laws.FnExactMulRootTwo', WHERE WHAT IT READS IS OF BULK AT MOST 1048576: true; the input reads as it did. -/
def fnExactMulRootTwoUptoRow : OpenClaim := { program := "ytpogpooomdpomaa", sum := "ee019b4e5a4e07e6f143df0999dcf32b22ba22ad9171bebd85f0f8cfd74202c7", func := "loop.example/g00864/laws.FnExactMulRootTwo", spec := "fnExactMulRootTwo", apart := false, narrowed := true }
def FnExactMulRootTwoUptoSaid : Prop := fnExactMulRootTwoUptoRow.holds Try.pinned (OpenSpec.upto fnExactMulRootTwoSpec)

/-- 'laws.FnExactSubRing', WHERE WHAT IT READS IS OF BULK AT MOST 1048576: true; the input reads as it did. -/
def fnExactSubRingUptoRow : OpenClaim := { program := "ytpogpooomdpomaa", sum := "ee019b4e5a4e07e6f143df0999dcf32b22ba22ad9171bebd85f0f8cfd74202c7", func := "loop.example/g00864/laws.FnExactSubRing", spec := "fnExactSubRing", apart := false, narrowed := true }
def FnExactSubRingUptoSaid : Prop := fnExactSubRingUptoRow.holds Try.pinned (OpenSpec.upto fnExactSubRingSpec)

/-- 'laws.FnExactDivRootTwo', WHERE WHAT IT READS IS OF BULK AT MOST 1048576: true; the input reads as it did. -/
def fnExactDivRootTwoUptoRow : OpenClaim := { program := "ytpogpooomdpomaa", sum := "ee019b4e5a4e07e6f143df0999dcf32b22ba22ad9171bebd85f0f8cfd74202c7", func := "loop.example/g00864/laws.FnExactDivRootTwo", spec := "fnExactDivRootTwo", apart := false, narrowed := true }
def FnExactDivRootTwoUptoSaid : Prop := fnExactDivRootTwoUptoRow.holds Try.pinned (OpenSpec.upto fnExactDivRootTwoSpec)

/-- 'laws.FnExactMulRing', WHERE WHAT IT READS IS OF BULK AT MOST 1048576: true; the input reads as it did. -/
def fnExactMulRingUptoRow : OpenClaim := { program := "ytpogpooomdpomaa", sum := "ee019b4e5a4e07e6f143df0999dcf32b22ba22ad9171bebd85f0f8cfd74202c7", func := "loop.example/g00864/laws.FnExactMulRing", spec := "fnExactMulRing", apart := false, narrowed := true }
def FnExactMulRingUptoSaid : Prop := fnExactMulRingUptoRow.holds Try.pinned (OpenSpec.upto fnExactMulRingSpec)

end Rows
end Go.Proofs.Ytpogpooomdpomaa
