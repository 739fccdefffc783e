/- EqualUpToPhase of the program. -/
import Derived.Test.YtcmkkjdleihjfaaEupT
import Derived.Test.YtcmkkjdleihjfaaRes
import Derived.Deep.DeepCutAuto
namespace Go.Proofs.Ytcmkkjdleihjfaa
open Go.RowKit

theorem ret_ibb {a a' : Int} {x x' y y' : Bool} (h1 : a = a') (h2 : x = x') (h3 : y = y') : Ending.returned (.tuple #[.int .i64 a, .bool x, .bool y]) = .returned (.tuple #[.int .i64 a', .bool x', .bool y']) := by rw [h1, h2, h3]

set_option maxRecDepth 100000 in
set_option maxHeartbeats 8000000 in
theorem implEup_any (r c : Int) (A : Option Addr) (cap : Nat) (xs : List D5) (r' c' : Int) (A' : Option Addr) (cap' : Nat) (ys : List D5) (w : World) (hn : xs.length ≤ 1048576) (hn2 : ys.length ≤ 1048576) (hx : Hid (FlatAt w A (flatD xs))) (hy : Hid (FlatAt w A' (flatD ys))) :
    Calls Try.prog 46 #[mv r c A xs.length cap, mv r' c' A' ys.length cap'] w fun e w' => e = .returned (eupRes r c xs r' c' ys) ∧ Below w.heap.size w w' := by
  rcases hok : mOk r c xs with _ | _
  · have Hr : Hid (eupRes r c xs r' c' ys = .tuple #[.int .i64 0, .bool false, .bool false]) := by show eupRes _ _ _ _ _ _ = _; simp [eupRes, hok, rI_f]
    go_enter Try.func46, Try.ntmps46
    go_wp2_with fail
    refine (implValidM_any r c A cap xs _ hn ((hx.out.alloc _).alloc _)).mono ?_
    rintro e w1 ⟨rfl, b1⟩
    obtain ⟨b1c, b1f⟩ := bcell b1
    have z1 := b1.size
    try simp only [World.size_alloc] at z1
    have B1 : Below w.heap.size w w1 := Below.chain (Below.refl _ _) (by go_grown) b1 (by go_size)
    have y10 : w.heap.size < w1.heap.size := by omega
    have y11 : w.heap.size + 1 < w1.heap.size := by omega
    rw [hok]
    go_wp2
    rw [Hr.out]
    go_ret3
    refine ⟨rfl, ?_⟩
    go_grown
  rcases hok2 : mOk r' c' ys with _ | _
  · have Hr : Hid (eupRes r c xs r' c' ys = .tuple #[.int .i64 0, .bool false, .bool false]) := by show eupRes _ _ _ _ _ _ = _; simp [eupRes, hok2, rI_f]
    go_enter Try.func46, Try.ntmps46
    go_wp2_with fail
    refine (implValidM_any r c A cap xs _ hn ((hx.out.alloc _).alloc _)).mono ?_
    rintro e w1 ⟨rfl, b1⟩
    obtain ⟨b1c, b1f⟩ := bcell b1
    have z1 := b1.size
    try simp only [World.size_alloc] at z1
    have B1 : Below w.heap.size w w1 := Below.chain (Below.refl _ _) (by go_grown) b1 (by go_size)
    have y10 : w.heap.size < w1.heap.size := by omega
    have y11 : w.heap.size + 1 < w1.heap.size := by omega
    rw [hok]
    go_wp2_with fail
    refine (implValidM_any r' c' A' cap' ys _ hn2 (by refine hy.out.below B1)).mono ?_
    rintro e w2 ⟨rfl, b2⟩
    have z2 := b2.size
    try simp only [World.size_alloc] at z2
    have C2 := Below.chain b1 (by go_grown) b2 (by go_size)
    have B2 : Below w.heap.size w w2 := Below.chain B1 (by go_grown) b2 (by go_size)
    obtain ⟨b2c, b2f⟩ := bcell b2
    obtain ⟨C2c, C2f⟩ := bcellB C2
    have y20 : w.heap.size < w2.heap.size := by omega
    have y21 : w.heap.size + 1 < w2.heap.size := by omega
    try (have v21 : w1.heap.size < w2.heap.size := by omega)
    rw [hok2]
    go_wp2
    rw [Hr.out]
    go_ret3
    refine ⟨rfl, ?_⟩
    go_grown
  have Hr : Hid (eupRes r c xs r' c' ys = .tuple #[.int .i64 (seekGo (upB r c xs r' c' ys) 8 0).1, .bool (seekGo (upB r c xs r' c' ys) 8 0).2, .bool true]) := by show eupRes _ _ _ _ _ _ = _; simp [eupRes, hok, hok2, rI_t]
  have Hsc : Hid (∀ k : Nat, k < 8 → sclAll r' c' ys (powQ k, 0) = true ∧ sclL r'.toNat c'.toNat ys (powQ k, 0) = ys.map (turnD k)) := by
    intro k hk
    obtain ⟨R, C, rfl, rfl, _⟩ := dims hok2
    exact scl_phase hk hok2
  have hylen : ys.length ≤ 1024 := by
    obtain ⟨R, C, _, _, _, hR, _, hC, _, _, h, _⟩ := dims hok2
    rw [h]
    exact Nat.mul_le_mul hR hC
  have Hok := Lib.hid hok
  have Hok2 := Lib.hid hok2
  clear hok hok2
  go_enter Try.func46, Try.ntmps46
  go_wp2_with fail
  refine (implValidM_any r c A cap xs _ hn ((hx.out.alloc _).alloc _)).mono ?_
  rintro e w1 ⟨rfl, b1⟩
  obtain ⟨b1c, b1f⟩ := bcell b1
  have z1 := b1.size
  try simp only [World.size_alloc] at z1
  have B1 : Below w.heap.size w w1 := Below.chain (Below.refl _ _) (by go_grown) b1 (by go_size)
  have y10 : w.heap.size < w1.heap.size := by omega
  have y11 : w.heap.size + 1 < w1.heap.size := by omega
  rw [Hok.out]
  have L1 := LocM.below (LocM.of_row ((Below.heap_alloc _ _ _ (by go_size)).trans (heap_top _ _ rfl)) : LocM _ w.heap.size r c A xs.length cap) b1 (by go_size)
  have K1 := LocM.below (LocM.of_row (heap_top _ _ (by simp)) : LocM _ (w.heap.size + 1) r' c' A' ys.length cap') b1 (by go_size)
  go_wp2_with fail
  refine (implValidM_any r' c' A' cap' ys _ hn2 (by refine hy.out.below B1)).mono ?_
  rintro e w2 ⟨rfl, b2⟩
  have z2 := b2.size
  try simp only [World.size_alloc] at z2
  have C2 := Below.chain b1 (by go_grown) b2 (by go_size)
  have B2 : Below w.heap.size w w2 := Below.chain B1 (by go_grown) b2 (by go_size)
  obtain ⟨b2c, b2f⟩ := bcell b2
  obtain ⟨C2c, C2f⟩ := bcellB C2
  have y20 : w.heap.size < w2.heap.size := by omega
  have y21 : w.heap.size + 1 < w2.heap.size := by omega
  try (have v21 : w1.heap.size < w2.heap.size := by omega)
  rw [Hok2.out]
  have L2 := Lib.hid (L1.call b2)
  have K2 := Lib.hid (K1.call b2)
  clear b1 b1c b1f b2 b2c b2f C2 C2c C2f L1 K1 y10 y11 y20 y21 z1 z2
  go_wp2_with fail
  go_loopw [18] (fun i wr => ∃ k : Nat, i = .int .i64 k ∧ k ≤ 8 ∧ seekGo (upB r c xs r' c' ys) (8 - k) k = seekGo (upB r c xs r' c' ys) 8 0 ∧ LocM wr w.heap.size r c A xs.length cap ∧ LocM wr (w.heap.size + 1) r' c' A' ys.length cap' ∧ Below w.heap.size w wr) (fun i _ => 8 - (intOf i).toNat)
  case atStart => exact ⟨0, rfl, by omega, rfl, L2.out, K2.out, B2⟩
  case round =>
    obtain ⟨k, rfl, hk, hgo, hL, hK, hb⟩ := hrel
    have Hgo := Lib.hid hgo
    have HL := Lib.hid hL
    have HK := Lib.hid hK
    clear hgo L2 K2
    by_cases hlt : k < 8
    · have Hlt := Lib.hid hlt
      obtain ⟨_, k0, k1, k2⟩ := hK
      clear hL
      have zb := hb.size
      have HS := Lib.hid (Hsc.out k hlt)
      go_wp2_with fail
      go_cut [8, 9] (fun sA sB wx => ∃ (g lo hi p : Nat) (B : Option Addr) (rr cc : Int) (z : List D5), sA = .pointer (some ⟨g, 0, none⟩) ∧ sB = .bool true ∧ rr = r' ∧ cc = c' ∧ z = ys.map (turnD k) ∧ wr.heap.size ≤ g ∧ LocM wx g rr cc B z.length p ∧ FlatIn wx B (flatD z) lo hi ∧ Below wr.heap.size wr wx)
      case first =>
        go_region_held3 (fun w' => (∀ b o, b < wr.heap.size → w'.cell? ⟨b, o, none⟩ = wr.cell? ⟨b, o, none⟩) ∧ Below wr.heap.size wr w') ((refine SB_mk ?_; go_grown)) (first | (go_at_call 92; refine (phase_any k _ Hlt.out).mono ?_; rintro e wC ⟨rfl, bC⟩; obtain ⟨bCc, bCf⟩ := bcell bC; have sC := (SB_step (W := wr) (by with_reducible assumption) bC).2; have zC := sC.size; (try with_reducible have yC := lt_size bC); (try with_reducible have yC := lt_sizeD bC); (try with_reducible have vC := Nat.lt_of_lt_of_le (by assumption) bC.size)) | (go_at_call 50; refine (implScale_any r' c' _ _ ys (powQ k, 0) _ hn2 (flat_sb hy.out hb (by with_reducible assumption))).mono ?_; rintro e wR hm; rw [HS.out.1, HS.out.2] at hm; obtain ⟨AR, pR, rR, cR, xR, rfl, hr, hc, hx', hf, bR⟩ := hm.form; have eR := Lib.hid (And.intro hr (And.intro hc hx')); obtain ⟨loR, hloR, hloR', hf'⟩ := SB_lo (W := wr) (by with_reducible assumption) bR hf; have fR := Lib.hid hf'; clear hm hr hc hx' hf hf'; obtain ⟨bRc, bRf⟩ := bcell bR; have sR := (SB_step (W := wr) (by with_reducible assumption) bR).2; have zR := sR.size; (try with_reducible have yR := lt_size bR); (try with_reducible have yR := lt_sizeD bR); (try with_reducible have vR := Nat.lt_of_lt_of_le (by assumption) bR.size)))
        all_goals
          go_wp2_with fail
          go_meet
          refine ⟨_, loR, wR.heap.size, pR, AR, rR, cR, xR, rfl, rfl, eR.out.1, eR.out.2.1, eR.out.2.2, ?_, ⟨?_, ?_, ?_, ?_⟩, ?_, ?_⟩
          · first | omega | (simp; omega)
          · go_size
          · go_simp
          · go_simp
          · go_simp
          · have h := hloR'
            try simp only [World.size_alloc, World.size_drew] at h
            repeat (first | (with_reducible exact fR.out) | (refine FlatIn.setFar ?_ (by dsimp only; omega) _) | (refine FlatIn.alloc ?_ _) | (refine FlatIn.drew ?_))
          · go_grown
      case rest =>
        obtain ⟨w5, rfl⟩ : ∃ w5 : World, w5 = wc := ⟨_, rfl⟩
        obtain ⟨g, lo, hi, p, B, rr, cc, z, rfl, rfl, rfl, rfl, hz, hg, hL5, hF5, b5⟩ := hcut
        have HL5 := Lib.hid hL5
        have Hz := Lib.hid hz
        have HLa := Lib.hid (HL.out.call b5)
        have HKa := Lib.hid (HK.out.call b5)
        have hfz := Lib.hid hF5.at
        have hB5 := hb.trans (b5.mono zb)
        have hxa := Lib.hid (hx.out.below hB5)
        obtain ⟨_, p0, p1, p2⟩ := hL5
        obtain ⟨_, q0, q1, q2⟩ := HLa.out
        have z5 := b5.size
        clear hz hF5 b5 k0 k1 k2
        go_wp2_with fail
        refine (implEqM_any r c A cap xs rr cc B p z _ hn hxa hfz).mono ?_
        rintro e w6 ⟨rfl, b6⟩
        have B6 := hB5.trans (b6.mono hB5.size)
        have Hup : Hid (meqB r c xs rr cc z = upB r c xs rr cc ys k) := by show _ = _; rw [Hz.out]; rfl
        rw [Hup.out]
        rcases hu : upB r c xs rr cc ys k with _ | _
        · have Hno := Lib.hid (seek_no Hlt.out hu)
          go_wp2
          go_roundw
          case rel => exact ⟨k + 1, by go_num, by omega, by rw [← Hno.out, Hgo.out], HLa.out.call b6, HKa.out.call b6, B6⟩
          case measure => simp [intOf]; omega
        · have Hyes := Lib.hid (seek_yes Hlt.out hu)
          go_wp2
          rw [Hr.out]
          go_ret3
          refine ⟨ret_ibb ?_ ?_ rfl, B6⟩
          · rw [← Hgo.out, Hyes.out]
          · rw [← Hgo.out, Hyes.out]
    · have Hend : Hid (seekGo (upB r c xs r' c' ys) 8 0 = (0, false)) := by
        have := Hgo.out
        rw [show 8 - k = 0 from by omega] at this
        exact this.symm
      go_wp2
      rw [Hr.out]
      go_ret3
      refine ⟨ret_ibb ?_ ?_ rfl, hb⟩
      · rw [Hend.out]
      · rw [Hend.out]
end Go.Proofs.Ytcmkkjdleihjfaa
