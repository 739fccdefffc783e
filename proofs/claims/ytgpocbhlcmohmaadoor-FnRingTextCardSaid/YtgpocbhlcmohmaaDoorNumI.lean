/- The reference's texts of integers and of ring numbers. -/
import Derived.Test.YtgpocbhlcmohmaaDoorNumT
import Derived.Test.YtgpocbhlcmohmaaDoorRingSpec
import Derived.Deep.RegionHeld3
namespace Go.Proofs.YtgpocbhlcmohmaaDoor
open Go.RowKit

/-- a number's text -/
def itB (n : Int) : ByteArray := ⟨(Lib.itoa n).toArray⟩
theorem itB_size {n : Int} (h0 : -100000000000000000 < n) (h1 : n < 100000000000000000) : (itB n).size ≤ 18 := by
  show (Lib.itoa n).toArray.size ≤ 18
  rw [List.size_toArray]
  exact itoa_len h0 h1
def blk : ByteArray := ⟨#[32]⟩
/-- four numbers between blanks -/
def txt4 (a b c d : Int) : ByteArray := ((((((itB a ++ blk) ++ itB b) ++ blk) ++ itB c) ++ blk) ++ itB d)
theorem txt4_list (a b c d : Int) : (txt4 a b c d).data.toList = Lib.join [Lib.itoa a, Lib.itoa b, Lib.itoa c, Lib.itoa d] [32] := by
  rw [join_two, join_two, join_two, Lib.join_one]
  simp [txt4, itB, blk, ByteArray.data_append]

set_option maxRecDepth 100000 in
set_option maxHeartbeats 1000000 in
theorem l1Int_any (n : Int) (w : World) (h0 : -1000000000 ≤ n) (h1 : n ≤ 1000000000) :
    Calls Tryd.prog 79 #[.int .i64 n] w fun e w' => e = .returned (.string (itB n)) ∧ Below w.heap.size w w' := by
  have hsz := itB_size (n := n) (by omega) (by omega)
  rcases int_cases n with ⟨u, rfl⟩ | ⟨u, hu, rfl⟩
  · have hr : itB (u : Int) = ⟨(Lib.decDigits u).toArray⟩ := by rw [itB, itoa_pos]
    obtain ⟨s, hs⟩ : ∃ s, s = itB (u : Int) := ⟨_, rfl⟩
    have C1 : Hid (∀ W, Calls Tryd.prog 66 #[.int .i64 (u : Int)] W fun e w' => e = .returned (.string s) ∧ Below W.heap.size W w') := fun W => by rw [hs, hr]; exact l1Num_any u (by omega) W
    rw [← hs]
    have hge : ¬ (u : Int) < 0 := by omega
    clear hr hs h0 h1 hsz
    go_enter Tryd.func79, Tryd.ntmps79
    go_wp2_with fail
    refine (C1.out _).mono ?_
    rintro e w1 ⟨rfl, b1⟩
    go_wp2
    go_ret
    exact ⟨rfl, b1⟩
  · have hr : itB (-(u : Int)) = ⟨#[45]⟩ ++ ⟨(Lib.decDigits u).toArray⟩ := by
      rw [itB, itoa_neg' hu]
      exact ByteArray.ext (by simp [ByteArray.data_append])
    obtain ⟨s, hs⟩ : ∃ s : ByteArray, s = ⟨(Lib.decDigits u).toArray⟩ := ⟨_, rfl⟩
    have C1 : Hid (∀ W, Calls Tryd.prog 66 #[.int .i64 (u : Int)] W fun e w' => e = .returned (.string s) ∧ Below W.heap.size W w') := fun W => by rw [hs]; exact l1Num_any u (by omega) W
    have hss : ¬ (9223372036854775807 < 1 + s.size) := by
      rw [hr, ByteArray.size_append, ← hs] at hsz
      omega
    have Hr : Hid (itB (-(u : Int)) = ⟨#[45]⟩ ++ s) := by show _ = _; rw [hr, hs]
    have hlt : -(u : Int) < 0 := by omega
    have hub : (u : Int) ≤ 1000000000 := by omega
    clear hr hs h0 h1 hsz
    go_enter Tryd.func79, Tryd.ntmps79
    go_wp2_with fail
    refine (C1.out _).mono ?_
    rintro e w1 ⟨rfl, b1⟩
    go_wp2
    go_ret
    rw [Hr.out]
    exact ⟨rfl, b1⟩

set_option maxRecDepth 100000 in
set_option maxHeartbeats 4000000 in
theorem l1Text_any (a b c d : Int) (w : World) (ha : -1000000000 ≤ a ∧ a ≤ 1000000000) (hb : -1000000000 ≤ b ∧ b ≤ 1000000000) (hc : -1000000000 ≤ c ∧ c ≤ 1000000000) (hd : -1000000000 ≤ d ∧ d ≤ 1000000000) :
    Calls Tryd.prog 47 #[rv a b c d] w fun e w' => e = .returned (.string (txt4 a b c d)) ∧ Below w.heap.size w w' := by
  obtain ⟨s1, h1⟩ : ∃ s, s = itB a := ⟨_, rfl⟩
  obtain ⟨s2, h2⟩ : ∃ s, s = itB b := ⟨_, rfl⟩
  obtain ⟨s3, h3⟩ : ∃ s, s = itB c := ⟨_, rfl⟩
  obtain ⟨s4, h4⟩ : ∃ s, s = itB d := ⟨_, rfl⟩
  have z1 : s1.size ≤ 18 := by rw [h1]; exact itB_size (by omega) (by omega)
  have z2 : s2.size ≤ 18 := by rw [h2]; exact itB_size (by omega) (by omega)
  have z3 : s3.size ≤ 18 := by rw [h3]; exact itB_size (by omega) (by omega)
  have z4 : s4.size ≤ 18 := by rw [h4]; exact itB_size (by omega) (by omega)
  have D1 : Hid (∀ W, Calls Tryd.prog 79 #[.int .i64 a] W fun e w' => e = .returned (.string s1) ∧ Below W.heap.size W w') := fun W => by rw [h1]; exact l1Int_any a W ha.1 ha.2
  have D2 : Hid (∀ W, Calls Tryd.prog 79 #[.int .i64 b] W fun e w' => e = .returned (.string s2) ∧ Below W.heap.size W w') := fun W => by rw [h2]; exact l1Int_any b W hb.1 hb.2
  have D3 : Hid (∀ W, Calls Tryd.prog 79 #[.int .i64 c] W fun e w' => e = .returned (.string s3) ∧ Below W.heap.size W w') := fun W => by rw [h3]; exact l1Int_any c W hc.1 hc.2
  have D4 : Hid (∀ W, Calls Tryd.prog 79 #[.int .i64 d] W fun e w' => e = .returned (.string s4) ∧ Below W.heap.size W w') := fun W => by rw [h4]; exact l1Int_any d W hd.1 hd.2
  have hbl : blk.size = 1 := rfl
  have n1 : ¬ (9223372036854775807 < s1.size + 1) := by omega
  have n2 : ¬ (9223372036854775807 < (s1 ++ ⟨#[32]⟩ : ByteArray).size + s2.size) := by rw [ByteArray.size_append]; show ¬ _ < _ + 1 + _; omega
  have n3 : ¬ (9223372036854775807 < ((s1 ++ ⟨#[32]⟩) ++ s2 : ByteArray).size + 1) := by rw [ByteArray.size_append, ByteArray.size_append]; show ¬ _ < _ + 1 + _ + _; omega
  have n4 : ¬ (9223372036854775807 < (((s1 ++ ⟨#[32]⟩) ++ s2) ++ ⟨#[32]⟩ : ByteArray).size + s3.size) := by rw [ByteArray.size_append, ByteArray.size_append, ByteArray.size_append]; show ¬ _ < _ + 1 + _ + 1 + _; omega
  have n5 : ¬ (9223372036854775807 < ((((s1 ++ ⟨#[32]⟩) ++ s2) ++ ⟨#[32]⟩) ++ s3 : ByteArray).size + 1) := by rw [ByteArray.size_append, ByteArray.size_append, ByteArray.size_append, ByteArray.size_append]; show ¬ _ < _ + 1 + _ + 1 + _ + _; omega
  have n6 : ¬ (9223372036854775807 < (((((s1 ++ ⟨#[32]⟩) ++ s2) ++ ⟨#[32]⟩) ++ s3) ++ ⟨#[32]⟩ : ByteArray).size + s4.size) := by rw [ByteArray.size_append, ByteArray.size_append, ByteArray.size_append, ByteArray.size_append, ByteArray.size_append]; show ¬ _ < _ + 1 + _ + 1 + _ + 1 + _; omega
  have Hr : Hid (txt4 a b c d = ((((((s1 ++ ⟨#[32]⟩) ++ s2) ++ ⟨#[32]⟩) ++ s3) ++ ⟨#[32]⟩) ++ s4)) := by show _ = _; rw [h1, h2, h3, h4]; rfl
  have m2 : ¬ (9223372036854775807 < s1.size + 1 + s2.size) := by omega
  have m3 : ¬ (9223372036854775807 < s1.size + 1 + s2.size + 1) := by omega
  have m4 : ¬ (9223372036854775807 < s1.size + 1 + s2.size + 1 + s3.size) := by omega
  have m5 : ¬ (9223372036854775807 < s1.size + 1 + s2.size + 1 + s3.size + 1) := by omega
  have m6 : ¬ (9223372036854775807 < s1.size + 1 + s2.size + 1 + s3.size + 1 + s4.size) := by omega
  clear h1 h2 h3 h4 z1 z2 z3 z4 ha hb hc hd hbl
  go_enter Tryd.func47, Tryd.ntmps47
  go_wp2_with fail
  generalize hW0 : w.alloc (.cells #[.int .i64 a, .int .i64 b, .int .i64 c, .int .i64 d] 23) = W0
  have B0 : Below w.heap.size w W0 := by rw [← hW0]; clear hW0; go_grown
  have k0 := fun o => cell_of_row W0 w.heap.size o _ _ _ (by rw [← hW0]; exact heap_top _ _ rfl)
  have y0 : w.heap.size < W0.heap.size := by rw [← hW0]; clear hW0; go_size
  clear hW0
  go_region_held3 (fun w' => (∀ b o, b < W0.heap.size → w'.cell? ⟨b, o, none⟩ = W0.cell? ⟨b, o, none⟩) ∧ Below W0.heap.size W0 w') ((refine SB_mk ?_; go_grown)) (first | (go_at_call 79; with_reducible refine (D1.out _).mono ?_; rintro e wA ⟨rfl, bA⟩; obtain ⟨bAc, bAf⟩ := bcell bA; (try with_reducible have yA := lt_size bA); (try with_reducible have yA := lt_sizeD bA); (try with_reducible have yB := Nat.lt_of_lt_of_le (by assumption) bA.size); have sA := (SB_step (W := W0) (by with_reducible assumption) bA).2; have zA := sA.size) | (go_at_call 79; with_reducible refine (D2.out _).mono ?_; rintro e wA ⟨rfl, bA⟩; obtain ⟨bAc, bAf⟩ := bcell bA; (try with_reducible have yA := lt_size bA); (try with_reducible have yA := lt_sizeD bA); (try with_reducible have yB := Nat.lt_of_lt_of_le (by assumption) bA.size); have sA := (SB_step (W := W0) (by with_reducible assumption) bA).2; have zA := sA.size) | (go_at_call 79; with_reducible refine (D3.out _).mono ?_; rintro e wA ⟨rfl, bA⟩; obtain ⟨bAc, bAf⟩ := bcell bA; (try with_reducible have yA := lt_size bA); (try with_reducible have yA := lt_sizeD bA); (try with_reducible have yB := Nat.lt_of_lt_of_le (by assumption) bA.size); have sA := (SB_step (W := W0) (by with_reducible assumption) bA).2; have zA := sA.size) | (go_at_call 79; with_reducible refine (D4.out _).mono ?_; rintro e wA ⟨rfl, bA⟩; obtain ⟨bAc, bAf⟩ := bcell bA; (try with_reducible have yA := lt_size bA); (try with_reducible have yA := lt_sizeD bA); (try with_reducible have yB := Nat.lt_of_lt_of_le (by assumption) bA.size); have sA := (SB_step (W := W0) (by with_reducible assumption) bA).2; have zA := sA.size))
  all_goals
    go_wp2
    go_ret
    rw [Hr.out]
    exact ⟨rfl, B0.trans (sA.mono B0.size)⟩
end Go.Proofs.YtgpocbhlcmohmaaDoor
