/- The reference's decimal text of a number. -/
import Derived.Test.YtgpocbhlcmohmaaDoorNum
import Derived.Test.YtgpocbhlcmohmaaDoorTxtP
import Derived.Laws.BytesString
import Derived.Laws.Concat
import Derived.Deep.RegionWith
namespace Go.Proofs.YtgpocbhlcmohmaaDoor
open Go.RowKit

theorem conv1c (c : UInt8) (W : World) (g : Nat) (h : W.cell? ⟨g, 0, none⟩ = some (.int .u8 (c.toNat : Int))) :
    (convert 30 9 (.slice (some ⟨g, 0, none⟩) 1 1)).run Tryd.prog W = .ok (.string ⟨#[c]⟩) W := by
  rw [run_convert_bytes_string W 30 9 5 _ _ _ Tryd.underlying30 Tryd.underlying5 Tryd.underlying9]
  have hl : (loadCells ⟨g, 0, none⟩ 1).run Tryd.prog W = .ok (([(c.toNat : Int)]).map (Value.int .u8)).toArray W := by
    simp [loadCells, loadCellsFrom, go_sem, h]
  rw [run_bytesToString W ⟨g, 0, none⟩ 1 1 [(c.toNat : Int)] hl]
  simp
  rfl

theorem dig_wrap {r : Nat} (h : r < 10) : IntKind.wrap .u8 (48 + (r : Int)) = ((UInt8.ofNat (48 + r)).toNat : Int) := by
  rw [dgt_nat h]
  obtain rfl | rfl | rfl | rfl | rfl | rfl | rfl | rfl | rfl | rfl : r = 0 ∨ r = 1 ∨ r = 2 ∨ r = 3 ∨ r = 4 ∨ r = 5 ∨ r = 6 ∨ r = 7 ∨ r = 8 ∨ r = 9 := by omega
  all_goals decide

set_option maxRecDepth 100000 in
set_option maxHeartbeats 1000000 in
theorem l1Num_small (u : Nat) (w : World) (h : u < 10) :
    Calls Tryd.prog 66 #[.int .i64 (u : Int)] w fun e w' => e = .returned (.string ⟨(Lib.decDigits u).toArray⟩) ∧ Below w.heap.size w w' := by
  obtain ⟨c, hc⟩ : ∃ c, c = UInt8.ofNat (48 + u) := ⟨_, rfl⟩
  have hw : IntKind.wrap .u8 (48 + (u : Int)) = (c.toNat : Int) := by rw [hc]; exact dig_wrap h
  have Hr : Hid (Lib.decDigits u = [c]) := by show _ = _; rw [dec_small h, hc]
  have hcv := conv1c c
  clear hc
  go_enter Tryd.func66, Tryd.ntmps66
  go_wp2
  go_ret
  rw [Hr.out]
  refine ⟨rfl, ?_⟩
  go_grown

set_option maxRecDepth 100000 in
set_option maxHeartbeats 2000000 in
theorem l1Num_big (u q r : Nat) (w : World) (h : ¬ u < 10) (hu : u < 1000000000000000000) (hq : u / 10 = q) (hr : u % 10 = r)
    (ih : Hid (∀ W, Calls Tryd.prog 66 #[.int .i64 (q : Int)] W fun e w' => e = .returned (.string ⟨(Lib.decDigits q).toArray⟩) ∧ Below W.heap.size W w')) :
    Calls Tryd.prog 66 #[.int .i64 (u : Int)] w fun e w' => e = .returned (.string ⟨(Lib.decDigits u).toArray⟩) ∧ Below w.heap.size w w' := by
  obtain ⟨c, hc⟩ : ∃ c, c = UInt8.ofNat (48 + r) := ⟨_, rfl⟩
  obtain ⟨s, hs⟩ : ∃ s : ByteArray, s = ⟨(Lib.decDigits q).toArray⟩ := ⟨_, rfl⟩
  have hw : IntKind.wrap .u8 (48 + (r : Int)) = (c.toNat : Int) := by rw [hc]; exact dig_wrap (by omega)
  have hw2 : IntKind.wrap .i64 (48 + (r : Int)) = 48 + (r : Int) := IntWalk.i64_in _ (by omega)
  have hd1 : (u : Int).tdiv 10 = (q : Int) := by rw [Int.tdiv_eq_ediv_of_nonneg (by omega)]; omega
  have hd2 : (u : Int).tmod 10 = (r : Int) := by rw [Int.tmod_eq_emod_of_nonneg (by omega)]; omega
  have hd3 : (u : Int) / 10 = (q : Int) := by omega
  have hd4 : (u : Int) % 10 = (r : Int) := by omega
  have hw3 : IntKind.wrap .i64 (q : Int) = (q : Int) := IntWalk.i64_in _ (by omega)
  have hsz : ¬ (9223372036854775807 < s.size + 1) := by
    have e : s.size = (Lib.decDigits q).length := by rw [hs]; simp [ByteArray.size]
    rw [e, Lib.decDigits_length]
    have := nd_le (u := q) (k := 18) (by omega) (by omega)
    omega
  have Hr : Hid ((⟨(Lib.decDigits u).toArray⟩ : ByteArray) = s ++ ⟨#[c]⟩) := by
    show _ = _
    rw [dec_big h, hq, hr, hs, hc]
    exact ByteArray.ext (by simp [ByteArray.data_append])
  have Ih : Hid (∀ W, Calls Tryd.prog 66 #[.int .i64 (q : Int)] W fun e w' => e = .returned (.string s) ∧ Below W.heap.size W w') := by rw [hs]; exact ih.out
  have hge : ¬ (u : Int) < 10 := by omega
  have hcv := conv1c c
  clear hc hs ih hq hr h hu
  go_enter Tryd.func66, Tryd.ntmps66
  go_wp2_with fail
  go_region_with (first | (go_at_call 66; refine (Ih.out _).mono ?_; rintro e wA ⟨rfl, bA⟩; obtain ⟨bAc, bAf⟩ := bcell bA; have zA := bA.size; (try simp only [World.size_drew, World.size_alloc] at zA); have BA : Below w.heap.size w wA := Below.chain (Below.refl _ _) (by go_grown) bA (by go_size)))
  all_goals
    go_wp2
    go_ret
    rw [Hr.out]
    refine ⟨rfl, ?_⟩
    go_grown

theorem l1Num_any (u : Nat) (hu : u < 1000000000000000000) : ∀ w, Calls Tryd.prog 66 #[.int .i64 (u : Int)] w fun e w' => e = .returned (.string ⟨(Lib.decDigits u).toArray⟩) ∧ Below w.heap.size w w' := by
  induction u using Nat.strongRecOn with
  | _ u ih =>
    intro w
    by_cases h : u < 10
    · exact l1Num_small u w h
    · exact l1Num_big u (u / 10) (u % 10) w h hu rfl rfl (ih (u / 10) (by omega) (by omega))
end Go.Proofs.YtgpocbhlcmohmaaDoor
