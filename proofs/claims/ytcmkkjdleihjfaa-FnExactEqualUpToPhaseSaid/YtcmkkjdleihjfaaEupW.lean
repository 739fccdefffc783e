/- EqualUpToPhase of the reference: the search. -/
import Derived.Test.YtcmkkjdleihjfaaEupM
namespace Go.Proofs.Ytcmkkjdleihjfaa
open Go.RowKit

theorem ret_ib' {a a' : Int} {x x' : Bool} (h1 : a = a') (h2 : x = x') : Ending.returned (.tuple #[.int .i64 a, .bool x]) = .returned (.tuple #[.int .i64 a', .bool x']) := by rw [h1, h2]

set_option maxRecDepth 100000 in
set_option maxHeartbeats 4000000 in
theorem l6Phase_any (r c : Int) (A : Option Addr) (cap : Nat) (xs : List D5) (r' c' : Int) (A' : Option Addr) (cap' : Nat) (ys : List D5) (w : World) (h1 : mOk r c xs = true) (h2 : mOk r' c' ys = true) (hx : Hid (FlatAt w A (flatD xs))) (hy : Hid (FlatAt w A' (flatD ys))) :
    Calls Try.prog 89 #[mv r c A xs.length cap, mv r' c' A' ys.length cap'] w fun e w' => e = .returned (.tuple #[.int .i64 (seekGo (upB r c xs r' c' ys) 8 0).1, .bool (seekGo (upB r c xs r' c' ys) 8 0).2]) ∧ Below w.heap.size w w' := by
  have H1 := Lib.hid h1
  have H2 := Lib.hid h2
  clear h1 h2
  go_enter Try.func89, Try.ntmps89
  go_wp2_with fail
  go_loopw [6] (fun i wr => ∃ k : Nat, i = .int .i64 k ∧ k ≤ 8 ∧ seekGo (upB r c xs r' c' ys) (8 - k) k = seekGo (upB r c xs r' c' ys) 8 0 ∧ LocM wr w.heap.size r c A xs.length cap ∧ LocM wr (w.heap.size + 1) r' c' A' ys.length cap' ∧ Below w.heap.size w wr) (fun i _ => 8 - (intOf i).toNat)
  case atStart =>
    exact ⟨0, rfl, by omega, rfl, LocM.of_row ((Below.heap_alloc _ _ _ (by go_size)).trans (heap_top _ _ rfl)), LocM.of_row (heap_top _ _ (by simp)), by go_grown⟩
  case round =>
    obtain ⟨k, rfl, hk, hgo, hL, hK, hb⟩ := hrel
    have Hgo := Lib.hid hgo
    have HL := Lib.hid hL
    have HK := Lib.hid hK
    clear hgo
    have zb := hb.size
    by_cases hlt : k < 8
    · have Hlt := Lib.hid hlt
      obtain ⟨_, l0, l1, l2⟩ := hL
      obtain ⟨_, k0, k1, k2⟩ := hK
      go_wp2_with fail
      refine (l6Turned_any r c A cap xs r' c' A' cap' ys k _ Hlt.out H1.out H2.out (hx.out.below hb) (hy.out.below hb)).mono ?_
      rintro e w3 ⟨rfl, b3⟩
      have B3 := hb.trans (b3.mono zb)
      rcases hu : upB r c xs r' c' ys k with _ | _
      · have Hno := Lib.hid (seek_no Hlt.out hu)
        go_wp2
        go_roundw
        case rel => exact ⟨k + 1, by go_num, by omega, by rw [← Hno.out, Hgo.out], HL.out.call b3, HK.out.call b3, B3⟩
        case measure => simp [intOf]; omega
      · have Hyes := Lib.hid (seek_yes Hlt.out hu)
        go_wp2
        go_ret2
        refine ⟨ret_ib' ?_ ?_, B3⟩
        · rw [← Hgo.out, Hyes.out]
        · rw [← Hgo.out, Hyes.out]
    · have Hend : Hid (seekGo (upB r c xs r' c' ys) 8 0 = (0, false)) := by
        have := Hgo.out
        rw [show 8 - k = 0 from by omega] at this
        exact this.symm
      go_wp2
      go_ret2
      refine ⟨ret_ib' ?_ ?_, hb⟩
      · rw [Hend.out]
      · rw [Hend.out]

set_option maxRecDepth 100000 in
set_option maxHeartbeats 4000000 in
theorem specEup_any (r c : Int) (A : Option Addr) (cap : Nat) (xs : List D5) (r' c' : Int) (A' : Option Addr) (cap' : Nat) (ys : List D5) (w : World) (hx : Hid (FlatAt w A (flatD xs))) (hy : Hid (FlatAt w A' (flatD ys))) :
    Calls Try.prog 44 #[mv r c A xs.length cap, mv r' c' A' ys.length cap'] w fun e w' => e = .returned (eupRes r c xs r' c' ys) ∧ Below w.heap.size w w' := by
  rcases hok : mOk r c xs with _ | _
  · have Hr : Hid (eupRes r c xs r' c' ys = .tuple #[.int .i64 0, .bool false, .bool false]) := by show eupRes _ _ _ _ _ _ = _; simp [eupRes, hok, rI_f]
    go_enter Try.func44, Try.ntmps44
    go_wp2_with fail
    refine (l3Good_any r c A cap xs _ ((hx.out.alloc _).alloc _)).mono ?_
    rintro e w1 ⟨rfl, b1⟩
    obtain ⟨b1c, b1f⟩ := bcell b1
    have z1 := b1.size
    try simp only [World.size_alloc] at z1
    have B1 : Below w.heap.size w w1 := Below.chain (Below.refl _ _) (by go_grown) b1 (by go_size)
    have y10 : w.heap.size < w1.heap.size := by omega
    have y11 : w.heap.size + 1 < w1.heap.size := by omega
    rw [hok]
    go_wp2
    rw [Hr.out]
    go_ret3
    refine ⟨rfl, ?_⟩
    go_grown
  rcases hok2 : mOk r' c' ys with _ | _
  · have Hr : Hid (eupRes r c xs r' c' ys = .tuple #[.int .i64 0, .bool false, .bool false]) := by show eupRes _ _ _ _ _ _ = _; simp [eupRes, hok2, rI_f]
    go_enter Try.func44, Try.ntmps44
    go_wp2_with fail
    refine (l3Good_any r c A cap xs _ ((hx.out.alloc _).alloc _)).mono ?_
    rintro e w1 ⟨rfl, b1⟩
    obtain ⟨b1c, b1f⟩ := bcell b1
    have z1 := b1.size
    try simp only [World.size_alloc] at z1
    have B1 : Below w.heap.size w w1 := Below.chain (Below.refl _ _) (by go_grown) b1 (by go_size)
    have y10 : w.heap.size < w1.heap.size := by omega
    have y11 : w.heap.size + 1 < w1.heap.size := by omega
    rw [hok]
    go_wp2_with fail
    refine (l3Good_any r' c' A' cap' ys _ (by refine hy.out.below B1)).mono ?_
    rintro e w2 ⟨rfl, b2⟩
    have z2 := b2.size
    try simp only [World.size_alloc] at z2
    have C2 := Below.chain b1 (by go_grown) b2 (by go_size)
    have B2 : Below w.heap.size w w2 := Below.chain B1 (by go_grown) b2 (by go_size)
    obtain ⟨b2c, b2f⟩ := bcell b2
    obtain ⟨C2c, C2f⟩ := bcellB C2
    have y20 : w.heap.size < w2.heap.size := by omega
    have y21 : w.heap.size + 1 < w2.heap.size := by omega
    try (have v21 : w1.heap.size < w2.heap.size := by omega)
    rw [hok2]
    go_wp2
    rw [Hr.out]
    go_ret3
    refine ⟨rfl, ?_⟩
    go_grown
  have Hr : Hid (eupRes r c xs r' c' ys = .tuple #[.int .i64 (seekGo (upB r c xs r' c' ys) 8 0).1, .bool (seekGo (upB r c xs r' c' ys) 8 0).2, .bool true]) := by show eupRes _ _ _ _ _ _ = _; simp [eupRes, hok, hok2, rI_t]
  have Hok := Lib.hid hok
  have Hok2 := Lib.hid hok2
  clear hok hok2
  go_enter Try.func44, Try.ntmps44
  go_wp2_with fail
  refine (l3Good_any r c A cap xs _ ((hx.out.alloc _).alloc _)).mono ?_
  rintro e w1 ⟨rfl, b1⟩
  obtain ⟨b1c, b1f⟩ := bcell b1
  have z1 := b1.size
  try simp only [World.size_alloc] at z1
  have B1 : Below w.heap.size w w1 := Below.chain (Below.refl _ _) (by go_grown) b1 (by go_size)
  have y10 : w.heap.size < w1.heap.size := by omega
  have y11 : w.heap.size + 1 < w1.heap.size := by omega
  rw [Hok.out]
  go_wp2_with fail
  refine (l3Good_any r' c' A' cap' ys _ (by refine hy.out.below B1)).mono ?_
  rintro e w2 ⟨rfl, b2⟩
  have z2 := b2.size
  try simp only [World.size_alloc] at z2
  have C2 := Below.chain b1 (by go_grown) b2 (by go_size)
  have B2 : Below w.heap.size w w2 := Below.chain B1 (by go_grown) b2 (by go_size)
  obtain ⟨b2c, b2f⟩ := bcell b2
  obtain ⟨C2c, C2f⟩ := bcellB C2
  have y20 : w.heap.size < w2.heap.size := by omega
  have y21 : w.heap.size + 1 < w2.heap.size := by omega
  try (have v21 : w1.heap.size < w2.heap.size := by omega)
  rw [Hok2.out]
  go_wp2_with fail
  refine (l6Phase_any r c A cap xs r' c' A' cap' ys _ Hok.out Hok2.out (hx.out.below B2) (hy.out.below B2)).mono ?_
  rintro e w3 ⟨rfl, b3⟩
  have B3 := B2.trans (b3.mono B2.size)
  go_wp2
  rw [Hr.out]
  go_ret3
  exact ⟨rfl, B3⟩
end Go.Proofs.Ytcmkkjdleihjfaa
