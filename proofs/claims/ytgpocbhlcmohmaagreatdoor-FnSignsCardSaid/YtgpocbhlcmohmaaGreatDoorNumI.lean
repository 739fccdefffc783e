/- The reference's texts of integers and of ring numbers. -/
import Derived.Test.YtgpocbhlcmohmaaGreatDoorNumT
import Derived.Test.YtgpocbhlcmohmaaGreatDoorRingSpec
import Derived.Deep.RegionHeld3
namespace Go.Proofs.YtgpocbhlcmohmaaGreatDoor
open Go.RowKit

/-- a number's text -/
def itB (n : Int) : ByteArray := ⟨(Lib.itoa n).toArray⟩
theorem itB_size {n : Int} (h0 : -100000000000000000 < n) (h1 : n < 100000000000000000) : (itB n).size ≤ 18 := by
  show (Lib.itoa n).toArray.size ≤ 18
  rw [List.size_toArray]
  exact itoa_len h0 h1
def blk : ByteArray := ⟨#[32]⟩
/-- four numbers between blanks -/
def txt4 (a b c d : Int) : ByteArray := ((((((itB a ++ blk) ++ itB b) ++ blk) ++ itB c) ++ blk) ++ itB d)
theorem txt4_list (a b c d : Int) : (txt4 a b c d).data.toList = Lib.join [Lib.itoa a, Lib.itoa b, Lib.itoa c, Lib.itoa d] [32] := by
  rw [join_two, join_two, join_two, Lib.join_one]
  simp [txt4, itB, blk, ByteArray.data_append]

end Go.Proofs.YtgpocbhlcmohmaaGreatDoor
