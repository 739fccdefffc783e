/- FormatRing, of the program and of the reference. -/
import Derived.Test.YtgpocbhlcmohmaaGreatDoorJoinI
namespace Go.Proofs.YtgpocbhlcmohmaaGreatDoor
open Go.RowKit

def frRes (a b c d : Int) : Value := .tuple #[.string (if rOk a b c d then txt4 a b c d else ⟨#[]⟩), .bool (rOk a b c d)]
theorem rOk_bd {a b c d : Int} (h : rOk a b c d = true) : (-1000000000 ≤ a ∧ a ≤ 1000000000) ∧ (-1000000000 ≤ b ∧ b ≤ 1000000000) ∧ (-1000000000 ≤ c ∧ c ≤ 1000000000) ∧ (-1000000000 ≤ d ∧ d ≤ 1000000000) := by
  have := rOk_iff.1 h
  omega

set_option maxRecDepth 100000 in
set_option maxHeartbeats 2000000 in
theorem implFmtR_any (a b c d : Int) (w : World) (ht : Hid (TabP w)) :
    Calls Tryz.prog 20 #[rv a b c d] w fun e w' => e = .returned (frRes a b c d) ∧ Below w.heap.size w w' := by
  have Cv : Hid (∀ W, Calls Tryz.prog 32 #[rv a b c d] W fun e w' => e = .returned (.bool (rOk a b c d)) ∧ Below W.heap.size W w') := fun W => IsValidRing_any a b c d W
  rcases hok : rOk a b c d with _ | _
  · have Hr : Hid (frRes a b c d = .tuple #[.string ⟨#[]⟩, .bool false]) := by show _ = _; simp [frRes, hok]
    clear ht
    go_enter Tryz.func20, Tryz.ntmps20
    go_wp2_with fail
    refine (Cv.out _).mono ?_
    rintro e w1 ⟨rfl, b1⟩
    obtain ⟨b1c, b1f⟩ := bcell b1
    have z1 := b1.size
    try simp only [World.size_alloc] at z1
    have B1 : Below w.heap.size w w1 := Below.chain (Below.refl _ _) (by go_grown) b1 (by go_size)
    have y10 : w.heap.size < w1.heap.size := by omega
    rw [hok]
    go_wp2
    go_ret2
    rw [Hr.out]
    refine ⟨rfl, ?_⟩
    go_grown
  · have Hr : Hid (frRes a b c d = .tuple #[.string (txt4 a b c d), .bool true]) := by show _ = _; simp [frRes, hok]
    have Hb := Lib.hid (rOk_bd hok)
    have Hok := Lib.hid hok
    clear hok
    go_enter Tryz.func20, Tryz.ntmps20
    go_wp2_with fail
    refine (Cv.out _).mono ?_
    rintro e w1 ⟨rfl, b1⟩
    obtain ⟨b1c, b1f⟩ := bcell b1
    have z1 := b1.size
    try simp only [World.size_alloc] at z1
    have B1 : Below w.heap.size w w1 := Below.chain (Below.refl _ _) (by go_grown) b1 (by go_size)
    have y10 : w.heap.size < w1.heap.size := by omega
    rw [Hok.out]
    have HT1 := Lib.hid (ht.out.below B1)
    go_wp2_with fail
    refine (joinInts_any a b c d w1.heap.size _ Hb.out.1 Hb.out.2.1 Hb.out.2.2.1 Hb.out.2.2.2 (HT1.out.below ((Below.refl _ _).alloc (Nat.le_refl _) _)) (heap_top _ _ rfl)).mono ?_
    rintro e w2 ⟨rfl, b2⟩
    have B2 : Below w.heap.size w w2 := Below.chain B1 (by go_grown) b2 (by go_size)
    go_wp2
    go_ret2
    rw [Hr.out]
    exact ⟨rfl, B2⟩

end Go.Proofs.YtgpocbhlcmohmaaGreatDoor
