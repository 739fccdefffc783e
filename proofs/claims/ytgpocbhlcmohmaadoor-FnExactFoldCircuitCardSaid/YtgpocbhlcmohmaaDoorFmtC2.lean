/- FormatCircuit, of the program and of the reference: the walks. -/
import Derived.Test.YtgpocbhlcmohmaaDoorFmtC
namespace Go.Proofs.YtgpocbhlcmohmaaDoor
open Go.RowKit

theorem itoaB_any (a : Nat) (W : World) (h : a < 100) : Calls Tryd.prog 56 #[.int .i64 (a : Int)] W fun e w' => e = .returned (.string ⟨(Lib.decDigits a).toArray⟩) ∧ Below W.heap.size W w' :=
  (Tryd.strconv_Itoa_small a (by omega) W).mono fun _ _ ⟨h1, h2⟩ => ⟨h1, by rw [h2]; exact Below.refl _ _⟩

set_option maxRecDepth 100000 in
set_option maxHeartbeats 2000000 in
theorem l4TextG_any (x : G3) (w : World) (h : gOkG 5 x = true) :
    Calls Tryd.prog 54 #[tv x.1 x.2.1 x.2.2] w fun e w' => e = .returned (.string (gtxt x.1.toNat x.2.1.toNat x.2.2.toNat)) ∧ Below w.heap.size w w' := by
  obtain ⟨k, a, b⟩ := x
  obtain ⟨K, P, Q, h1, h2, h3, h4, h5, h6, h7⟩ := gate5_parts h
  simp only at h1 h2 h3 ⊢
  subst h1 h2 h3
  exact l4Text_any K P Q w h4 h5 h6 h7

set_option maxRecDepth 100000 in
set_option maxHeartbeats 2000000 in
theorem fmtGateG_any (x : G3) (w : World) (h : gOkG 5 x = true) (hN : Hid (NamesAt w)) :
    Calls Tryd.prog 22 #[tv x.1 x.2.1 x.2.2] w fun e w' => e = .returned (.tuple #[.string (gtxt x.1.toNat x.2.1.toNat x.2.2.toNat), .bool true]) ∧ Below w.heap.size w w' := by
  refine (implFmtGate_any _ _ _ w hN).mono ?_
  rintro e w' ⟨h1, h2⟩
  have h' : gateB 5 x.1 x.2.1 x.2.2 = true := h
  rw [h'] at h1
  exact ⟨h1, h2⟩

set_option maxRecDepth 100000 in
set_option maxHeartbeats 4000000 in
theorem l5Format_any (q : Nat) (A : Option Addr) (cap : Nat) (xs : List G3) (w : World) (hq : q < 10) (hn : xs.length ≤ 400) (hg : xs.all (gOkG 5) = true) (hx : Hid (FlatAt w A (flatG xs))) :
    Calls Tryd.prog 61 #[cv (q : Int) A xs.length cap] w fun e w' => e = .returned (.string (headB q ++ linesB xs)) ∧ Below w.heap.size w w' := by
  obtain ⟨dq, hdq⟩ : ∃ dq : ByteArray, dq = ⟨(Lib.decDigits q).toArray⟩ := ⟨_, rfl⟩
  have hqs : dq.size = 1 := by rw [hdq]; exact digit_size hq
  have D1 : Hid (∀ W, Calls Tryd.prog 66 #[.int .i64 (q : Int)] W fun e w' => e = .returned (.string dq) ∧ Below W.heap.size W w') := fun W => by rw [hdq]; exact l1Num_any q (by omega) W
  have m1 : ¬ (9223372036854775807 < 7 + dq.size) := by omega
  have m2 : ¬ (9223372036854775807 < (⟨#[113, 117, 98, 105, 116, 115, 32]⟩ ++ dq : ByteArray).size + 1) := by rw [ByteArray.size_append]; show ¬ _ < 7 + _ + 1; omega
  have m3 : ¬ (9223372036854775807 < 7 + dq.size + 1) := by omega
  have Hh : Hid (headB q = (⟨#[113, 117, 98, 105, 116, 115, 32]⟩ ++ dq) ++ ⟨#[10]⟩) := by show _ = _; rw [hdq]; rfl
  have Hg := Lib.hid hg
  have Hq := Lib.hid hq
  clear hdq hqs hg hq
  go_enter Tryd.func61, Tryd.ntmps61
  go_wp2_with fail
  refine (D1.out _).mono ?_
  rintro e w1 ⟨rfl, b1⟩
  obtain ⟨b1c, b1f⟩ := bcell b1
  have z1 := b1.size
  try simp only [World.size_alloc] at z1
  have B1 : Below w.heap.size w w1 := Below.chain (Below.refl _ _) (by go_grown) b1 (by go_size)
  have y10 : w.heap.size < w1.heap.size := by omega
  go_wp2_with fail
  go_loopw [3, 14] (fun s i wr => ∃ k : Nat, i = .int .i64 k ∧ k ≤ xs.length ∧ (∃ pre, s = .string pre ∧ pre = headB q ++ linesB (xs.take k)) ∧ Below w.heap.size w wr) (fun _ i _ => xs.length - (intOf i).toNat)
  case atStart => exact ⟨0, rfl, Nat.zero_le _, ⟨_, rfl, by rw [show linesB (xs.take 0) = ⟨#[]⟩ from rfl, app_emptyB, Hh.out]⟩, B1⟩
  case round =>
    obtain ⟨k, rfl, hk, ⟨pre, rfl, hp⟩, hb⟩ := hrel
    have zb := hb.size
    by_cases hlt : k < xs.length
    · obtain ⟨x, hkx⟩ : ∃ x, xs[k]? = some x := ⟨_, List.getElem?_eq_getElem hlt⟩
      obtain ⟨b, off, rfl, hbl, hcx⟩ := hx.out.three hkx
      have Hst := Lib.hid (linesB_step hkx)
      have hgx := allG_at Hg.out hkx
      obtain ⟨t, ht⟩ : ∃ t, t = gtxt x.1.toNat x.2.1.toNat x.2.2.toNat := ⟨_, rfl⟩
      have D2 : Hid (∀ W, Calls Tryd.prog 54 #[tv x.1 x.2.1 x.2.2] W fun e w' => e = .returned (.string t) ∧ Below W.heap.size W w') := fun W => by rw [ht]; exact l4TextG_any x W hgx
      have hts : t.size ≤ 8 := by rw [ht]; exact gtxt_size hgx
      have hps : pre.size ≤ 4000 := by
        have h1 := linesB_size (allG_take Hg.out k)
        have h2 : (xs.take k).length ≤ 400 := by rw [List.length_take]; omega
        rw [hp, ByteArray.size_append, headB_size Hq.out]
        omega
      have n1 : ¬ (9223372036854775807 < t.size + 1) := by omega
      have n2 : ¬ (9223372036854775807 < pre.size + (t ++ ⟨#[10]⟩ : ByteArray).size) := by rw [ByteArray.size_append]; show ¬ _ < _ + (_ + 1); omega
      have n3 : ¬ (9223372036854775807 < pre.size + (t.size + 1)) := by omega
      have Hp : Hid (headB q ++ linesB (xs.take (k + 1)) = pre ++ (t ++ ⟨#[10]⟩)) := by show _ = _; rw [Hst.out, ← ByteArray.append_assoc, ← hp, ht]; rfl
      clear hkx ht hp hgx Hst hts hps
      obtain ⟨c0, c1, c2⟩ := hcx.below hb hbl
      clear hcx
      go_wp2_with fail
      refine (D2.out _).mono ?_
      rintro e w3 ⟨rfl, b3⟩
      have B3 : Below w.heap.size w w3 := Below.chain hb (by go_grown) b3 (by go_size)
      go_wp2
      go_roundw
      case rel => exact ⟨k + 1, by go_num, by omega, ⟨_, rfl, Hp.out.symm⟩, B3⟩
      case measure => simp [intOf]; omega
    · go_wp2
      go_ret
      rw [List.take_of_length_le (by omega)] at hp
      rw [hp]
      exact ⟨rfl, hb⟩

set_option maxRecDepth 100000 in
set_option maxHeartbeats 4000000 in
theorem gateLines_any (A : Option Addr) (cap : Nat) (xs : List G3) (w : World) (hn : xs.length ≤ 400) (hg : xs.all (gOkG 5) = true) (hx : Hid (FlatAt w A (flatG xs))) (hN : Hid (NamesAt w)) :
    Calls Tryd.prog 64 #[.slice A xs.length cap] w fun e w' => e = .returned (.string (linesB xs)) ∧ Below w.heap.size w w' := by
  have Hg := Lib.hid hg
  clear hg
  go_enter Tryd.func64, Tryd.ntmps64
  go_wp2_with fail
  go_loopw [3, 10] (fun s i wr => ∃ k : Nat, i = .int .i64 k ∧ k ≤ xs.length ∧ (∃ pre, s = .string pre ∧ pre = linesB (xs.take k)) ∧ Below w.heap.size w wr) (fun _ i _ => xs.length - (intOf i).toNat)
  case atStart => exact ⟨0, rfl, Nat.zero_le _, ⟨_, rfl, rfl⟩, Below.refl _ _⟩
  case round =>
    obtain ⟨k, rfl, hk, ⟨pre, rfl, hp⟩, hb⟩ := hrel
    have zb := hb.size
    by_cases hlt : k < xs.length
    · obtain ⟨x, hkx⟩ : ∃ x, xs[k]? = some x := ⟨_, List.getElem?_eq_getElem hlt⟩
      obtain ⟨b, off, rfl, hbl, hcx⟩ := hx.out.three hkx
      have Hst := Lib.hid (linesB_step hkx)
      have hgx := allG_at Hg.out hkx
      obtain ⟨t, ht⟩ : ∃ t, t = gtxt x.1.toNat x.2.1.toNat x.2.2.toNat := ⟨_, rfl⟩
      have D2 : Hid (∀ W, NamesAt W → Calls Tryd.prog 22 #[tv x.1 x.2.1 x.2.2] W fun e w' => e = .returned (.tuple #[.string t, .bool true]) ∧ Below W.heap.size W w') := fun W hW => by rw [ht]; exact fmtGateG_any x W hgx hW
      have hts : t.size ≤ 8 := by rw [ht]; exact gtxt_size hgx
      have hps : pre.size ≤ 4000 := by
        have h1 := linesB_size (allG_take Hg.out k)
        have h2 : (xs.take k).length ≤ 400 := by rw [List.length_take]; omega
        rw [hp]
        omega
      have n1 : ¬ (9223372036854775807 < t.size + 1) := by omega
      have n2 : ¬ (9223372036854775807 < pre.size + (t ++ ⟨#[10]⟩ : ByteArray).size) := by rw [ByteArray.size_append]; show ¬ _ < _ + (_ + 1); omega
      have n3 : ¬ (9223372036854775807 < pre.size + (t.size + 1)) := by omega
      have Hp : Hid (linesB (xs.take (k + 1)) = pre ++ (t ++ ⟨#[10]⟩)) := by show _ = _; rw [Hst.out, ← hp, ht]; rfl
      have HN := Lib.hid (hN.out.below hb)
      clear hkx ht hp hgx Hst hts hps
      obtain ⟨c0, c1, c2⟩ := hcx.below hb hbl
      clear hcx
      go_wp2_with fail
      refine (D2.out _ (HN.out.below ((Below.refl _ _).alloc (Nat.le_refl _) _))).mono ?_
      rintro e w3 ⟨rfl, b3⟩
      have B3 : Below w.heap.size w w3 := Below.chain hb (by go_grown) b3 (by go_size)
      go_wp2
      go_roundw
      case rel => exact ⟨k + 1, by go_num, by omega, ⟨_, rfl, Hp.out.symm⟩, B3⟩
      case measure => simp [intOf]; omega
    · go_wp2
      go_ret
      rw [List.take_of_length_le (by omega)] at hp
      rw [hp]
      exact ⟨rfl, hb⟩

set_option maxRecDepth 100000 in
set_option maxHeartbeats 2000000 in
theorem specFmtC_any (q : Int) (A : Option Addr) (cap : Nat) (xs : List G3) (w : World) (hn : xs.length ≤ 1048576) (hx : Hid (FlatAt w A (flatG xs))) :
    Calls Tryd.prog 29 #[cv q A xs.length cap] w fun e w' => e = .returned (fcRes q xs) ∧ Below w.heap.size w w' := by
  rcases hok : cOk q xs with _ | _
  · have Hr : Hid (fcRes q xs = .tuple #[.string ⟨#[]⟩, .bool false]) := by show _ = _; simp [fcRes, hok]
    go_enter Tryd.func29, Tryd.ntmps29
    go_wp2_with fail
    refine (l4Good_any q A cap xs _ (by omega) (hx.out.alloc _)).mono ?_
    rintro e w1 ⟨rfl, b1⟩
    obtain ⟨b1c, b1f⟩ := bcell b1
    have z1 := b1.size
    try simp only [World.size_alloc] at z1
    have B1 : Below w.heap.size w w1 := Below.chain (Below.refl _ _) (by go_grown) b1 (by go_size)
    have y10 : w.heap.size < w1.heap.size := by omega
    rw [hok]
    go_wp2
    rw [Hr.out]
    go_ret2
    refine ⟨rfl, ?_⟩
    go_grown
  · have hq := cOk_q hok
    have hl := cOk_len hok
    have hg := cOk_all hok
    obtain ⟨u, rfl⟩ := Int.eq_ofNat_of_zero_le (show 0 ≤ q by omega)
    obtain ⟨s, hs⟩ : ∃ s, s = headB u ++ linesB xs := ⟨_, rfl⟩
    have Hr : Hid (fcRes (u : Int) xs = .tuple #[.string s, .bool true]) := by show _ = _; rw [fcRes, hok, hs]; simp
    have HF : Hid (∀ W, FlatAt W A (flatG xs) → Calls Tryd.prog 61 #[cv (u : Int) A xs.length cap] W fun e w' => e = .returned (.string s) ∧ Below W.heap.size W w') := fun W hW => by rw [hs]; exact l5Format_any u A cap xs W (by omega) hl hg hW
    have Hok := Lib.hid hok
    clear hok hs hg hq hl
    go_enter Tryd.func29, Tryd.ntmps29
    go_wp2_with fail
    refine (l4Good_any _ A cap xs _ (by omega) (hx.out.alloc _)).mono ?_
    rintro e w1 ⟨rfl, b1⟩
    obtain ⟨b1c, b1f⟩ := bcell b1
    have z1 := b1.size
    try simp only [World.size_alloc] at z1
    have B1 : Below w.heap.size w w1 := Below.chain (Below.refl _ _) (by go_grown) b1 (by go_size)
    have y10 : w.heap.size < w1.heap.size := by omega
    rw [Hok.out]
    go_wp2_with fail
    refine (HF.out _ (by refine hx.out.below B1)).mono ?_
    rintro e w2 ⟨rfl, b2⟩
    have z2 := b2.size
    try simp only [World.size_alloc] at z2
    have C2 := Below.chain b1 (by go_grown) b2 (by go_size)
    have B2 : Below w.heap.size w w2 := Below.chain B1 (by go_grown) b2 (by go_size)
    obtain ⟨b2c, b2f⟩ := bcell b2
    obtain ⟨C2c, C2f⟩ := bcellB C2
    have y20 : w.heap.size < w2.heap.size := by omega
    try (have v21 : w1.heap.size < w2.heap.size := by omega)
    go_wp2
    rw [Hr.out]
    go_ret2
    refine ⟨rfl, ?_⟩
    go_grown

set_option maxRecDepth 100000 in
set_option maxHeartbeats 4000000 in
theorem implFmtC_any (q : Int) (A : Option Addr) (cap : Nat) (xs : List G3) (w : World) (hn : xs.length ≤ 1048576) (hx : Hid (FlatAt w A (flatG xs))) (hN : Hid (NamesAt w)) :
    Calls Tryd.prog 31 #[cv q A xs.length cap] w fun e w' => e = .returned (fcRes q xs) ∧ Below w.heap.size w w' := by
  rcases hok : cOk q xs with _ | _
  · have Hr : Hid (fcRes q xs = .tuple #[.string ⟨#[]⟩, .bool false]) := by show _ = _; simp [fcRes, hok]
    clear hN
    go_enter Tryd.func31, Tryd.ntmps31
    go_wp2_with fail
    refine (implValidC_any q A cap xs _ hn (hx.out.alloc _)).mono ?_
    rintro e w1 ⟨rfl, b1⟩
    obtain ⟨b1c, b1f⟩ := bcell b1
    have z1 := b1.size
    try simp only [World.size_alloc] at z1
    have B1 : Below w.heap.size w w1 := Below.chain (Below.refl _ _) (by go_grown) b1 (by go_size)
    have y10 : w.heap.size < w1.heap.size := by omega
    rw [hok]
    go_wp2
    rw [Hr.out]
    go_ret2
    refine ⟨rfl, ?_⟩
    go_grown
  · have hq := cOk_q hok
    have hl := cOk_len hok
    have hg := cOk_all hok
    obtain ⟨u, rfl⟩ := Int.eq_ofNat_of_zero_le (show 0 ≤ q by omega)
    obtain ⟨ls, hls⟩ : ∃ s, s = linesB xs := ⟨_, rfl⟩
    obtain ⟨dq, hdq⟩ : ∃ dq : ByteArray, dq = ⟨(Lib.decDigits u).toArray⟩ := ⟨_, rfl⟩
    have hqs : dq.size = 1 := by rw [hdq]; exact digit_size (by omega)
    have hlz : ls.size ≤ 3600 := by rw [hls]; have := linesB_size hg; omega
    have Hr : Hid (fcRes (u : Int) xs = .tuple #[.string (((⟨#[113, 117, 98, 105, 116, 115, 32]⟩ ++ dq) ++ ⟨#[10]⟩) ++ ls), .bool true]) := by show _ = _; rw [fcRes, hok, hls, hdq]; simp [headB]
    have D1 : Hid (∀ W, Calls Tryd.prog 56 #[.int .i64 (u : Int)] W fun e w' => e = .returned (.string dq) ∧ Below W.heap.size W w') := fun W => by rw [hdq]; exact itoaB_any u W (by omega)
    have D2 : Hid (∀ W, FlatAt W A (flatG xs) → NamesAt W → Calls Tryd.prog 64 #[.slice A xs.length cap] W fun e w' => e = .returned (.string ls) ∧ Below W.heap.size W w') := fun W hW hM => by rw [hls]; exact gateLines_any A cap xs W hl hg hW hM
    have m1 : ¬ (9223372036854775807 < 7 + dq.size) := by omega
    have m2 : ¬ (9223372036854775807 < (⟨#[113, 117, 98, 105, 116, 115, 32]⟩ ++ dq : ByteArray).size + 1) := by rw [ByteArray.size_append]; show ¬ _ < 7 + _ + 1; omega
    have m3 : ¬ (9223372036854775807 < 7 + dq.size + 1) := by omega
    have m4 : ¬ (9223372036854775807 < ((⟨#[113, 117, 98, 105, 116, 115, 32]⟩ ++ dq) ++ ⟨#[10]⟩ : ByteArray).size + ls.size) := by rw [ByteArray.size_append, ByteArray.size_append]; show ¬ _ < 7 + _ + 1 + _; omega
    have m5 : ¬ (9223372036854775807 < 7 + dq.size + 1 + ls.size) := by omega
    have Hok := Lib.hid hok
    clear hok hls hdq hg hq hl hqs hlz
    go_enter Tryd.func31, Tryd.ntmps31
    go_wp2_with fail
    refine (implValidC_any _ A cap xs _ hn (hx.out.alloc _)).mono ?_
    rintro e w1 ⟨rfl, b1⟩
    obtain ⟨b1c, b1f⟩ := bcell b1
    have z1 := b1.size
    try simp only [World.size_alloc] at z1
    have B1 : Below w.heap.size w w1 := Below.chain (Below.refl _ _) (by go_grown) b1 (by go_size)
    have y10 : w.heap.size < w1.heap.size := by omega
    rw [Hok.out]
    have k0 : w1.cell? ⟨w.heap.size, 0, none⟩ = some (.int .i64 (u : Int)) := by go_simp
    have k1 : w1.cell? ⟨w.heap.size, 1, none⟩ = some (.slice A xs.length cap) := by go_simp
    have HG : Hid (∀ W, ((∀ b o, b < w1.heap.size → W.cell? ⟨b, o, none⟩ = w1.cell? ⟨b, o, none⟩) ∧ Below w1.heap.size w1 W) → Calls Tryd.prog 64 #[.slice A xs.length cap] W fun e w' => e = .returned (.string ls) ∧ Below W.heap.size W w') := fun W hW => D2.out W (hx.out.below (B1.trans (hW.2.mono B1.size))) (hN.out.below (B1.trans (hW.2.mono B1.size)))
    clear D2
    go_wp2_with fail
    go_region_held3 (fun w' => (∀ b o, b < w1.heap.size → w'.cell? ⟨b, o, none⟩ = w1.cell? ⟨b, o, none⟩) ∧ Below w1.heap.size w1 w') ((refine SB_mk ?_; go_grown)) (first | (go_at_call 64; with_reducible refine (HG.out _ (by with_reducible assumption)).mono ?_; rintro e wA ⟨rfl, bA⟩; obtain ⟨bAc, bAf⟩ := bcell bA; (try with_reducible have yA := lt_size bA); (try with_reducible have yA := lt_sizeD bA); (try with_reducible have yB := Nat.lt_of_lt_of_le (by assumption) bA.size); have sA := (SB_step (W := w1) (by with_reducible assumption) bA).2; have zA := sA.size) | (go_at_call 56; with_reducible refine (D1.out _).mono ?_; rintro e wA ⟨rfl, bA⟩; obtain ⟨bAc, bAf⟩ := bcell bA; (try with_reducible have yA := lt_size bA); (try with_reducible have yA := lt_sizeD bA); (try with_reducible have yB := Nat.lt_of_lt_of_le (by assumption) bA.size); have sA := (SB_step (W := w1) (by with_reducible assumption) bA).2; have zA := sA.size))
    all_goals
      go_wp2
      rw [Hr.out]
      go_ret2
      exact ⟨rfl, B1.trans (sA.mono B1.size)⟩
end Go.Proofs.YtgpocbhlcmohmaaDoor
