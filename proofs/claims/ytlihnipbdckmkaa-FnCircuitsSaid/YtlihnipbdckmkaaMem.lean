/- A store, read back: with no fact on the cell asked for. -/
import Derived.Test.YtlihnipbdckmkaaNum
namespace Go.Proofs.Ytlihnipbdckmkaa
open Go.RowKit

theorem cell_set_same (w : World) (a : Addr) (v : Value) : (w.setCell a v).cell? a = (w.cell? a).map (fun _ => v) := by
  cases h : w.heap[a.block]? with
  | none => simp [World.cell?, World.setCell, Array.getElem?_modify, h]
  | some o =>
    cases o <;> simp [World.cell?, World.setCell, Array.getElem?_modify, h]
    case cells c e f =>
      cases a.spot with
      | some _ => simp
      | none =>
        simp only [Option.isSome_none, Bool.false_eq_true, if_false]
        rw [Array.getElem?_setIfInBounds_self]
        rcases Nat.lt_or_ge a.off c.size with hlt | hge
        · simp [hlt]
        · simp [Nat.not_lt.2 hge]

attribute [go_sem] cell_set_same
end Go.Proofs.Ytlihnipbdckmkaa
