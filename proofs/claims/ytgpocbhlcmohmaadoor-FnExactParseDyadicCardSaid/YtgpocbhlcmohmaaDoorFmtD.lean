/- FormatDyadic, of the program and of the reference. -/
import Derived.Test.YtgpocbhlcmohmaaDoorFmtR
import Derived.Test.YtgpocbhlcmohmaaDoorDyadic
import Derived.Test.YtgpocbhlcmohmaaDoorDyadicConj
import Derived.Test.YtgpocbhlcmohmaaDoorShs
namespace Go.Proofs.YtgpocbhlcmohmaaDoor
open Go.RowKit

/-- the text of a dyadic number -/
def txtD (a b c d e : Int) : ByteArray := (txt4 a b c d ++ ⟨#[47]⟩) ++ ⟨(Lib.decDigits e.toNat).toArray⟩
def fdRes (a b c d e : Int) : Value := .tuple #[.string (if dOk a b c d e then txtD a b c d e else ⟨#[]⟩), .bool (dOk a b c d e)]
theorem dOk_exp {a b c d e : Int} (h : dOk a b c d e = true) : 0 ≤ e ∧ e ≤ 60 := by
  simp only [dOk, Bool.and_eq_true] at h
  exact inB_t.1 h.1.2
theorem txt4_size {a b c d : Int} (h : rOk a b c d = true) : (txt4 a b c d).size ≤ 100 := by
  have hb := rOk_bd h
  have z1 := itB_size (n := a) (by omega) (by omega)
  have z2 := itB_size (n := b) (by omega) (by omega)
  have z3 := itB_size (n := c) (by omega) (by omega)
  have z4 := itB_size (n := d) (by omega) (by omega)
  have hbl : blk.size = 1 := rfl
  simp only [txt4, ByteArray.size_append]
  omega
theorem dec60_size {u : Nat} (h : u ≤ 60) : (⟨(Lib.decDigits u).toArray⟩ : ByteArray).size ≤ 2 := by
  show (Lib.decDigits u).toArray.size ≤ 2
  rw [List.size_toArray, Lib.decDigits_length]
  exact nd_le (by omega) (by omega)

set_option maxRecDepth 100000 in
set_option maxHeartbeats 2000000 in
theorem implFmtD_any (a b c d e : Int) (w : World) (ht : Hid (TabP w)) :
    Calls Tryd.prog 27 #[dv a b c d e] w fun r w' => r = .returned (fdRes a b c d e) ∧ Below w.heap.size w w' := by
  have Cv : Hid (∀ W, Calls Tryd.prog 41 #[dv a b c d e] W fun r w' => r = .returned (.bool (dOk a b c d e)) ∧ Below W.heap.size W w') := fun W => implValidDyadic_any a b c d e W
  rcases hok : dOk a b c d e with _ | _
  · have Hr : Hid (fdRes a b c d e = .tuple #[.string ⟨#[]⟩, .bool false]) := by show _ = _; simp [fdRes, hok]
    clear ht
    go_enter Tryd.func27, Tryd.ntmps27
    go_wp2_with fail
    refine (Cv.out _).mono ?_
    rintro e w1 ⟨rfl, b1⟩
    obtain ⟨b1c, b1f⟩ := bcell b1
    have z1 := b1.size
    try simp only [World.size_alloc] at z1
    have B1 : Below w.heap.size w w1 := Below.chain (Below.refl _ _) (by go_grown) b1 (by go_size)
    have y10 : w.heap.size < w1.heap.size := by omega
    rw [hok]
    go_wp2
    go_ret2
    rw [Hr.out]
    refine ⟨rfl, ?_⟩
    go_grown
  · have hr := dOk_r hok
    have he := dOk_exp hok
    obtain ⟨u, rfl⟩ := Int.eq_ofNat_of_zero_le he.1
    obtain ⟨s, hs⟩ : ∃ s, s = txt4 a b c d := ⟨_, rfl⟩
    obtain ⟨t, htt⟩ : ∃ t : ByteArray, t = ⟨(Lib.decDigits u).toArray⟩ := ⟨_, rfl⟩
    have Hr : Hid (fdRes a b c d (u : Int) = .tuple #[.string ((s ++ ⟨#[47]⟩) ++ t), .bool true]) := by show _ = _; rw [fdRes, hok, hs, htt]; simp [txtD]
    have HF : Hid (∀ W, TabP W → Calls Tryd.prog 16 #[rv a b c d] W fun r w' => r = .returned (.tuple #[.string s, .bool true]) ∧ Below W.heap.size W w') := fun W hT => by
      have h := implFmtR_any a b c d W hT
      rw [frRes, hr, ← hs] at h
      exact h
    have HI : Hid (∀ W, Calls Tryd.prog 56 #[.int .i64 (u : Int)] W fun r w' => r = .returned (.string t) ∧ W = w') := fun W => by
      rw [htt]
      exact (Tryd.strconv_Itoa_small u (by omega) W).mono fun _ _ ⟨h1, h2⟩ => ⟨h1, h2.symm⟩
    have zs : s.size ≤ 100 := by rw [hs]; exact txt4_size hr
    have zt : t.size ≤ 2 := by rw [htt]; exact dec60_size (by omega)
    have n1 : ¬ (9223372036854775807 < s.size + 1) := by omega
    have n2 : ¬ (9223372036854775807 < (s ++ ⟨#[47]⟩ : ByteArray).size + t.size) := by rw [ByteArray.size_append]; show ¬ _ < _ + 1 + _; omega
    have n3 : ¬ (9223372036854775807 < s.size + 1 + t.size) := by omega
    have Hok := Lib.hid hok
    clear hok hr he hs htt zs zt
    go_enter Tryd.func27, Tryd.ntmps27
    go_wp2_with fail
    refine (Cv.out _).mono ?_
    rintro e w1 ⟨rfl, b1⟩
    obtain ⟨b1c, b1f⟩ := bcell b1
    have z1 := b1.size
    try simp only [World.size_alloc] at z1
    have B1 : Below w.heap.size w w1 := Below.chain (Below.refl _ _) (by go_grown) b1 (by go_size)
    have y10 : w.heap.size < w1.heap.size := by omega
    rw [Hok.out]
    go_wp2_with fail
    refine (HF.out _ (by refine ht.out.below B1)).mono ?_
    rintro e w2 ⟨rfl, b2⟩
    have z2 := b2.size
    try simp only [World.size_alloc] at z2
    have C2 := Below.chain b1 (by go_grown) b2 (by go_size)
    have B2 : Below w.heap.size w w2 := Below.chain B1 (by go_grown) b2 (by go_size)
    obtain ⟨b2c, b2f⟩ := bcell b2
    obtain ⟨C2c, C2f⟩ := bcellB C2
    have y20 : w.heap.size < w2.heap.size := by omega
    try (have v21 : w1.heap.size < w2.heap.size := by omega)
    go_wp2_with fail
    refine (HI.out _).mono ?_
    rintro e w' ⟨rfl, rfl⟩
    go_wp2
    go_ret2
    rw [Hr.out]
    refine ⟨rfl, ?_⟩
    go_grown

set_option maxRecDepth 100000 in
set_option maxHeartbeats 2000000 in
theorem l2Text_any (a b c d : Int) (u : Nat) (w : World) (hr : rOk a b c d = true) (hu : u ≤ 60) :
    Calls Tryd.prog 58 #[dv a b c d (u : Int)] w fun r w' => r = .returned (.string (txtD a b c d (u : Int))) ∧ Below w.heap.size w w' := by
  have hb := rOk_bd hr
  obtain ⟨s, hs⟩ : ∃ s, s = txt4 a b c d := ⟨_, rfl⟩
  obtain ⟨t, htt⟩ : ∃ t : ByteArray, t = ⟨(Lib.decDigits u).toArray⟩ := ⟨_, rfl⟩
  have Hr : Hid (txtD a b c d (u : Int) = (s ++ ⟨#[47]⟩) ++ t) := by show _ = _; rw [hs, htt]; rfl
  have D1 : Hid (∀ W, Calls Tryd.prog 47 #[rv a b c d] W fun r w' => r = .returned (.string s) ∧ Below W.heap.size W w') := fun W => by rw [hs]; exact l1Text_any a b c d W hb.1 hb.2.1 hb.2.2.1 hb.2.2.2
  have D2 : Hid (∀ W, Calls Tryd.prog 66 #[.int .i64 (u : Int)] W fun r w' => r = .returned (.string t) ∧ Below W.heap.size W w') := fun W => by rw [htt]; exact l1Num_any u (by omega) W
  have zs : s.size ≤ 100 := by rw [hs]; exact txt4_size hr
  have zt : t.size ≤ 2 := by rw [htt]; exact dec60_size (by omega)
  have n1 : ¬ (9223372036854775807 < s.size + 1) := by omega
  have n2 : ¬ (9223372036854775807 < (s ++ ⟨#[47]⟩ : ByteArray).size + t.size) := by rw [ByteArray.size_append]; show ¬ _ < _ + 1 + _; omega
  have n3 : ¬ (9223372036854775807 < s.size + 1 + t.size) := by omega
  clear hb hs htt zs zt hr hu
  go_enter Tryd.func58, Tryd.ntmps58
  go_wp2_with fail
  generalize hW0 : w.alloc (.cells #[.int .i64 a, .int .i64 b, .int .i64 c, .int .i64 d, .int .i64 (u : Int)] 25) = W0
  have B0 : Below w.heap.size w W0 := by rw [← hW0]; clear hW0; go_grown
  have k0 := fun o => cell_of_row W0 w.heap.size o _ _ _ (by rw [← hW0]; exact heap_top _ _ rfl)
  have y0 : w.heap.size < W0.heap.size := by rw [← hW0]; clear hW0; go_size
  clear hW0
  go_region_held3 (fun w' => (∀ b o, b < W0.heap.size → w'.cell? ⟨b, o, none⟩ = W0.cell? ⟨b, o, none⟩) ∧ Below W0.heap.size W0 w') ((refine SB_mk ?_; go_grown)) (first | (go_at_call 47; with_reducible refine (D1.out _).mono ?_; rintro e wA ⟨rfl, bA⟩; obtain ⟨bAc, bAf⟩ := bcell bA; (try with_reducible have yA := lt_size bA); (try with_reducible have yA := lt_sizeD bA); (try with_reducible have yB := Nat.lt_of_lt_of_le (by assumption) bA.size); have sA := (SB_step (W := W0) (by with_reducible assumption) bA).2; have zA := sA.size) | (go_at_call 66; with_reducible refine (D2.out _).mono ?_; rintro e wA ⟨rfl, bA⟩; obtain ⟨bAc, bAf⟩ := bcell bA; (try with_reducible have yA := lt_size bA); (try with_reducible have yA := lt_sizeD bA); (try with_reducible have yB := Nat.lt_of_lt_of_le (by assumption) bA.size); have sA := (SB_step (W := W0) (by with_reducible assumption) bA).2; have zA := sA.size))
  all_goals
    go_wp2
    go_ret
    rw [Hr.out]
    exact ⟨rfl, B0.trans (sA.mono B0.size)⟩

set_option maxRecDepth 100000 in
set_option maxHeartbeats 2000000 in
theorem specFmtD_any (a b c d e : Int) (w : World) :
    Calls Tryd.prog 25 #[dv a b c d e] w fun r w' => r = .returned (fdRes a b c d e) ∧ Below w.heap.size w w' := by
  rcases hok : dOk a b c d e with _ | _
  · have Hr : Hid (fdRes a b c d e = .tuple #[.string ⟨#[]⟩, .bool false]) := by show _ = _; simp [fdRes, hok]
    go_enter Tryd.func25, Tryd.ntmps25
    go_wp2_with fail
    refine (l2Good_any _ _ _ _ _ _).mono ?_
    rintro e w1 ⟨rfl, b1⟩
    obtain ⟨b1c, b1f⟩ := bcell b1
    have z1 := b1.size
    try simp only [World.size_alloc] at z1
    have B1 : Below w.heap.size w w1 := Below.chain (Below.refl _ _) (by go_grown) b1 (by go_size)
    have y10 : w.heap.size < w1.heap.size := by omega
    rw [hok]
    go_wp2
    go_ret2
    rw [Hr.out]
    refine ⟨rfl, ?_⟩
    go_grown
  · have hr := dOk_r hok
    have he := dOk_exp hok
    obtain ⟨u, rfl⟩ := Int.eq_ofNat_of_zero_le he.1
    have Hr : Hid (fdRes a b c d (u : Int) = .tuple #[.string (txtD a b c d (u : Int)), .bool true]) := by show _ = _; simp [fdRes, hok]
    have HF : Hid (∀ W, Calls Tryd.prog 58 #[dv a b c d (u : Int)] W fun r w' => r = .returned (.string (txtD a b c d (u : Int))) ∧ Below W.heap.size W w') := fun W => l2Text_any a b c d u W hr (by omega)
    have Hok := Lib.hid hok
    clear hok hr he
    go_enter Tryd.func25, Tryd.ntmps25
    go_wp2_with fail
    refine (l2Good_any _ _ _ _ _ _).mono ?_
    rintro e w1 ⟨rfl, b1⟩
    obtain ⟨b1c, b1f⟩ := bcell b1
    have z1 := b1.size
    try simp only [World.size_alloc] at z1
    have B1 : Below w.heap.size w w1 := Below.chain (Below.refl _ _) (by go_grown) b1 (by go_size)
    have y10 : w.heap.size < w1.heap.size := by omega
    rw [Hok.out]
    go_wp2_with fail
    refine (HF.out _).mono ?_
    rintro e w2 ⟨rfl, b2⟩
    have z2 := b2.size
    try simp only [World.size_alloc] at z2
    have C2 := Below.chain b1 (by go_grown) b2 (by go_size)
    have B2 : Below w.heap.size w w2 := Below.chain B1 (by go_grown) b2 (by go_size)
    obtain ⟨b2c, b2f⟩ := bcell b2
    obtain ⟨C2c, C2f⟩ := bcellB C2
    have y20 : w.heap.size < w2.heap.size := by omega
    try (have v21 : w1.heap.size < w2.heap.size := by omega)
    go_wp2
    go_ret2
    rw [Hr.out]
    refine ⟨rfl, ?_⟩
    go_grown
end Go.Proofs.YtgpocbhlcmohmaaDoor
