/- The reference's draws of pairs of ring numbers. -/
import Derived.Test.YtgpocbhlcmohmaaGreatDoorDrw3
import Derived.Test.YtgpocbhlcmohmaaGreatDoorRingTurn
import Derived.Test.YtgpocbhlcmohmaaGreatDoorRingSpec
import Derived.RegionTactic
namespace Go.Proofs.YtgpocbhlcmohmaaGreatDoor
open Go.RowKit

theorem Blk4.touch {lo hi : Nat} {w w' : World} {b : Nat} {x : Q4} (h : Blk4 w b x) (ht : Touch lo hi w w') (hd : b < lo ∨ hi ≤ b) : Blk4 w' b x :=
  (ht.block b (Array.getElem?_eq_some_iff.1 h).1 hd).trans h
theorem Blk4.lt {w : World} {b : Nat} {x : Q4} (h : Blk4 w b x) : b < w.heap.size := (Array.getElem?_eq_some_iff.1 h).1
theorem Blk4.new {w : World} {g : Nat} (a b c d : Int) (hg : g = w.heap.size) : Blk4 (w.alloc (.cells #[.int .i64 a, .int .i64 b, .int .i64 c, .int .i64 d] 29)) g (a, b, c, d) := heap_top _ _ hg
theorem Blk4.alloc {w : World} {g : Nat} {x : Q4} (h : Blk4 w g x) (o : Obj) : Blk4 (w.alloc o) g x := (Below.heap_alloc _ _ _ h.lt).trans h

/-- two ring numbers -/
def TwoR (w : World) (e : Ending) (w' : World) : Prop := ∃ a b c d a' b' c' d' : Int, e = .returned (.tuple #[rv a b c d, rv a' b' c' d']) ∧ Below w.heap.size w w'

end Go.Proofs.YtgpocbhlcmohmaaGreatDoor
