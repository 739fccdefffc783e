/- FormatDyadic, of the program and of the reference. -/
import Derived.Test.YtgpocbhlcmohmaaGreatDoorFmtR
import Derived.Test.YtgpocbhlcmohmaaGreatDoorDyadic
import Derived.Test.YtgpocbhlcmohmaaGreatDoorDyadicConj
import Derived.Test.YtgpocbhlcmohmaaGreatDoorShs
namespace Go.Proofs.YtgpocbhlcmohmaaGreatDoor
open Go.RowKit

/-- the text of a dyadic number -/
def txtD (a b c d e : Int) : ByteArray := (txt4 a b c d ++ ⟨#[47]⟩) ++ ⟨(Lib.decDigits e.toNat).toArray⟩
def fdRes (a b c d e : Int) : Value := .tuple #[.string (if dOk a b c d e then txtD a b c d e else ⟨#[]⟩), .bool (dOk a b c d e)]
theorem dOk_exp {a b c d e : Int} (h : dOk a b c d e = true) : 0 ≤ e ∧ e ≤ 60 := by
  simp only [dOk, Bool.and_eq_true] at h
  exact inB_t.1 h.1.2
theorem txt4_size {a b c d : Int} (h : rOk a b c d = true) : (txt4 a b c d).size ≤ 100 := by
  have hb := rOk_bd h
  have z1 := itB_size (n := a) (by omega) (by omega)
  have z2 := itB_size (n := b) (by omega) (by omega)
  have z3 := itB_size (n := c) (by omega) (by omega)
  have z4 := itB_size (n := d) (by omega) (by omega)
  have hbl : blk.size = 1 := rfl
  simp only [txt4, ByteArray.size_append]
  omega
theorem dec60_size {u : Nat} (h : u ≤ 60) : (⟨(Lib.decDigits u).toArray⟩ : ByteArray).size ≤ 2 := by
  show (Lib.decDigits u).toArray.size ≤ 2
  rw [List.size_toArray, Lib.decDigits_length]
  exact nd_le (by omega) (by omega)

set_option maxRecDepth 100000 in
set_option maxHeartbeats 2000000 in
theorem implFmtD_any (a b c d e : Int) (w : World) (ht : Hid (TabP w)) :
    Calls Tryz.prog 9 #[dv a b c d e] w fun r w' => r = .returned (fdRes a b c d e) ∧ Below w.heap.size w w' := by
  have Cv : Hid (∀ W, Calls Tryz.prog 19 #[dv a b c d e] W fun r w' => r = .returned (.bool (dOk a b c d e)) ∧ Below W.heap.size W w') := fun W => implValidDyadic_any a b c d e W
  rcases hok : dOk a b c d e with _ | _
  · have Hr : Hid (fdRes a b c d e = .tuple #[.string ⟨#[]⟩, .bool false]) := by show _ = _; simp [fdRes, hok]
    clear ht
    go_enter Tryz.func9, Tryz.ntmps9
    go_wp2_with fail
    refine (Cv.out _).mono ?_
    rintro e w1 ⟨rfl, b1⟩
    obtain ⟨b1c, b1f⟩ := bcell b1
    have z1 := b1.size
    try simp only [World.size_alloc] at z1
    have B1 : Below w.heap.size w w1 := Below.chain (Below.refl _ _) (by go_grown) b1 (by go_size)
    have y10 : w.heap.size < w1.heap.size := by omega
    rw [hok]
    go_wp2
    go_ret2
    rw [Hr.out]
    refine ⟨rfl, ?_⟩
    go_grown
  · have hr := dOk_r hok
    have he := dOk_exp hok
    obtain ⟨u, rfl⟩ := Int.eq_ofNat_of_zero_le he.1
    obtain ⟨s, hs⟩ : ∃ s, s = txt4 a b c d := ⟨_, rfl⟩
    obtain ⟨t, htt⟩ : ∃ t : ByteArray, t = ⟨(Lib.decDigits u).toArray⟩ := ⟨_, rfl⟩
    have Hr : Hid (fdRes a b c d (u : Int) = .tuple #[.string ((s ++ ⟨#[47]⟩) ++ t), .bool true]) := by show _ = _; rw [fdRes, hok, hs, htt]; simp [txtD]
    have HF : Hid (∀ W, TabP W → Calls Tryz.prog 20 #[rv a b c d] W fun r w' => r = .returned (.tuple #[.string s, .bool true]) ∧ Below W.heap.size W w') := fun W hT => by
      have h := implFmtR_any a b c d W hT
      rw [frRes, hr, ← hs] at h
      exact h
    have HI : Hid (∀ W, Calls Tryz.prog 21 #[.int .i64 (u : Int)] W fun r w' => r = .returned (.string t) ∧ W = w') := fun W => by
      rw [htt]
      exact (Tryz.strconv_Itoa_small u (by omega) W).mono fun _ _ ⟨h1, h2⟩ => ⟨h1, h2.symm⟩
    have zs : s.size ≤ 100 := by rw [hs]; exact txt4_size hr
    have zt : t.size ≤ 2 := by rw [htt]; exact dec60_size (by omega)
    have n1 : ¬ (9223372036854775807 < s.size + 1) := by omega
    have n2 : ¬ (9223372036854775807 < (s ++ ⟨#[47]⟩ : ByteArray).size + t.size) := by rw [ByteArray.size_append]; show ¬ _ < _ + 1 + _; omega
    have n3 : ¬ (9223372036854775807 < s.size + 1 + t.size) := by omega
    have Hok := Lib.hid hok
    clear hok hr he hs htt zs zt
    go_enter Tryz.func9, Tryz.ntmps9
    go_wp2_with fail
    refine (Cv.out _).mono ?_
    rintro e w1 ⟨rfl, b1⟩
    obtain ⟨b1c, b1f⟩ := bcell b1
    have z1 := b1.size
    try simp only [World.size_alloc] at z1
    have B1 : Below w.heap.size w w1 := Below.chain (Below.refl _ _) (by go_grown) b1 (by go_size)
    have y10 : w.heap.size < w1.heap.size := by omega
    rw [Hok.out]
    go_wp2_with fail
    refine (HF.out _ (by refine ht.out.below B1)).mono ?_
    rintro e w2 ⟨rfl, b2⟩
    have z2 := b2.size
    try simp only [World.size_alloc] at z2
    have C2 := Below.chain b1 (by go_grown) b2 (by go_size)
    have B2 : Below w.heap.size w w2 := Below.chain B1 (by go_grown) b2 (by go_size)
    obtain ⟨b2c, b2f⟩ := bcell b2
    obtain ⟨C2c, C2f⟩ := bcellB C2
    have y20 : w.heap.size < w2.heap.size := by omega
    try (have v21 : w1.heap.size < w2.heap.size := by omega)
    go_wp2_with fail
    refine (HI.out _).mono ?_
    rintro e w' ⟨rfl, rfl⟩
    go_wp2
    go_ret2
    rw [Hr.out]
    refine ⟨rfl, ?_⟩
    go_grown

end Go.Proofs.YtgpocbhlcmohmaaGreatDoor
