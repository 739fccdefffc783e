/- The reference's decimal text of a number. -/
import Derived.Test.YtgpocbhlcmohmaaGreatDoorNum
import Derived.Test.YtgpocbhlcmohmaaGreatDoorTxtP
import Derived.Laws.BytesString
import Derived.Laws.Concat
import Derived.Deep.RegionWith
namespace Go.Proofs.YtgpocbhlcmohmaaGreatDoor
open Go.RowKit

theorem conv1c (c : UInt8) (W : World) (g : Nat) (h : W.cell? ⟨g, 0, none⟩ = some (.int .u8 (c.toNat : Int))) :
    (convert 22 9 (.slice (some ⟨g, 0, none⟩) 1 1)).run Tryz.prog W = .ok (.string ⟨#[c]⟩) W := by
  rw [run_convert_bytes_string W 22 9 5 _ _ _ Tryz.underlying22 Tryz.underlying5 Tryz.underlying9]
  have hl : (loadCells ⟨g, 0, none⟩ 1).run Tryz.prog W = .ok (([(c.toNat : Int)]).map (Value.int .u8)).toArray W := by
    simp [loadCells, loadCellsFrom, go_sem, h]
  rw [run_bytesToString W ⟨g, 0, none⟩ 1 1 [(c.toNat : Int)] hl]
  simp
  rfl

theorem dig_wrap {r : Nat} (h : r < 10) : IntKind.wrap .u8 (48 + (r : Int)) = ((UInt8.ofNat (48 + r)).toNat : Int) := by
  rw [dgt_nat h]
  obtain rfl | rfl | rfl | rfl | rfl | rfl | rfl | rfl | rfl | rfl : r = 0 ∨ r = 1 ∨ r = 2 ∨ r = 3 ∨ r = 4 ∨ r = 5 ∨ r = 6 ∨ r = 7 ∨ r = 8 ∨ r = 9 := by omega
  all_goals decide

end Go.Proofs.YtgpocbhlcmohmaaGreatDoor
