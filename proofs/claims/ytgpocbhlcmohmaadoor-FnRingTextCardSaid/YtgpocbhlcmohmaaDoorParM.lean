/- Parsing, of the program: numbers. -/
import Derived.Test.YtgpocbhlcmohmaaDoorJoinI
import Derived.Test.YtgpocbhlcmohmaaDoorTxtP
import Derived.Test.YtgpocbhlcmohmaaDoorSha
import Derived.Lib.AtoiErrMem
import Derived.Lib.AtoiAllCases
import Derived.Lib.SlicesS
namespace Go.Proofs.YtgpocbhlcmohmaaDoor
open Go.RowKit

theorem bytes_neq_iff (x y : ByteArray) : (x.toList == y.toList) = false ↔ x ≠ y := Lib.bytes_beq_false_iff x y
/-- a sentinel's cell -/
def SentAt (w : World) (g : Nat) : Prop := ∃ ev, w.cell? ⟨g, 0, none⟩ = some ev ∧ (ev = .nilIface ∨ ∃ te pe, ev = .iface te pe)
theorem SentAt.below {w w' : World} {g : Nat} (h : SentAt w g) (hb : Below w.heap.size w w') : SentAt w' g := by
  obtain ⟨ev, h1, h2⟩ := h
  exact ⟨ev, (hb.cell (p := ⟨g, 0, none⟩) (World.block_lt_of_cell? w ⟨g, 0, none⟩ h1)).trans h1, h2⟩
/-- what the library reads when it parses numbers -/
structure ParV (w : World) : Prop where
  tab : TabP w
  syn : SentAt w 2
  rng : SentAt w 3
theorem ParV.below {w w' : World} (h : ParV w) (hb : Below w.heap.size w w') : ParV w' := ⟨h.tab.below hb, h.syn.below hb, h.rng.below hb⟩
theorem ParV.call {w w' : World} (h : ParV w) (hb : Below w.heap.size w w') : ParV w' := h.below hb

theorem atoiOk_any (s : ByteArray) (v : Int) (w : World) (hs : s.size ≤ 2097152) (h : Lib.atoiAll s.data.toList = .ok v) :
    Calls Tryd.prog 73 #[.string s] w fun e w' => e = .returned (.tuple #[.int .i64 v, .nilIface]) ∧ Below w.heap.size w w' := by
  refine (Tryd.strconv_Atoi_ok s (by omega) v h w).mono ?_
  rintro e w' ⟨rfl, rfl | ⟨t, rfl⟩⟩
  · exact ⟨rfl, Below.refl _ _⟩
  · exact ⟨rfl, Lib.bytesWorld_below _ _ _⟩
theorem atoiNo_any (s : ByteArray) (w : World) (hs : s.size ≤ 2097152) (hv : ParV w) (h : ∀ v, Lib.atoiAll s.data.toList ≠ .ok v) :
    Calls Tryd.prog 73 #[.string s] w fun e w' => ∃ (n : Int) (t : TypeId) (p : Value), e = .returned (.tuple #[.int .i64 n, .iface t p]) ∧ Below w.heap.size w w' := by
  rcases he : Lib.atoiAll s.data.toList with v | _ | _
  · exact absurd he (h v)
  · obtain ⟨ev, h1, h2⟩ := hv.syn
    refine (Any.strconv_Atoi_syntax Tryd.laysC172 s (by omega) he ev w h1 h2).mono ?_
    rintro e w' ⟨N, rfl, _, _, hb⟩
    exact ⟨_, _, _, rfl, hb⟩
  · obtain ⟨ev, h1, h2⟩ := hv.rng
    refine (Tryd.strconv_Atoi_range s (by omega) he ev w h1 h2).mono ?_
    rintro e w' ⟨N, rfl, _, _, hb⟩
    exact ⟨_, _, _, rfl, hb⟩
theorem itoaW_any (n : Int) (w : World) (h0 : -9223372036854775808 ≤ n) (h1 : n ≤ 9223372036854775807) (ht : TabP w) :
    Calls Tryd.prog 56 #[.int .i64 n] w fun e w' => e = .returned (.string (itB n)) ∧ Below w.heap.size w w' :=
  (Tryd.strconv_Itoa n h0 h1 w ht).mono fun _ _ ⟨e1, k, os, e2⟩ => ⟨e1, by rw [e2]; exact Lib.below_grow _ w (Nat.le_refl _) k os⟩
theorem itB_eq {n : Int} {s : ByteArray} : itB n = s ↔ Lib.itoa n = s.data.toList := by
  constructor
  · rintro rfl
    rfl
  · intro h
    rw [itB, h]
/-- a number that is no text's -/
def NoN (e : Ending) : Prop := ∃ n : Int, e = .returned (.tuple #[.int .i64 n, .bool false])

set_option maxRecDepth 100000 in
set_option maxHeartbeats 2000000 in
theorem parseInt_yes (s : ByteArray) (n : Int) (w : World) (hs : s.size ≤ 2097152) (hv : Hid (ParV w)) (h : parN s.data.toList = some n) :
    Calls Tryd.prog 40 #[.string s] w fun e w' => e = .returned (.tuple #[.int .i64 n, .bool true]) ∧ Below w.heap.size w w' := by
  obtain ⟨ha, hi⟩ : Lib.atoiAll s.data.toList = .ok n ∧ Lib.itoa n = s.data.toList := by
    unfold parN at h
    split at h
    · rename_i v hv
      split at h
      · rename_i h2
        cases h
        exact ⟨hv, h2⟩
      · cases h
    · cases h
  obtain ⟨n0, n1⟩ := Lib.atoiAll_bounds ha
  have hI := itB_eq.2 hi
  have HA : Hid (∀ W, Calls Tryd.prog 73 #[.string s] W fun e w' => e = .returned (.tuple #[.int .i64 n, .nilIface]) ∧ Below W.heap.size W w') := fun W => atoiOk_any s n W hs ha
  have HI : Hid (∀ W, TabP W → Calls Tryd.prog 56 #[.int .i64 n] W fun e w' => e = .returned (.string s) ∧ Below W.heap.size W w') := fun W hT => by rw [← hI]; exact itoaW_any n W n0 n1 hT
  clear ha hi n0 n1 hI h
  go_enter Tryd.func40, Tryd.ntmps40
  go_wp2_with fail
  refine (HA.out _).mono ?_
  rintro e w1 ⟨rfl, b1⟩
  go_wp2_with fail
  refine (HI.out _ (hv.out.tab.below b1)).mono ?_
  rintro e w2 ⟨rfl, b2⟩
  have B2 : Below w.heap.size w w2 := b1.trans (b2.mono b1.size)
  go_wp2
  go_ret2
  exact ⟨rfl, B2⟩

set_option maxRecDepth 100000 in
set_option maxHeartbeats 2000000 in
theorem parseInt_no (s : ByteArray) (w : World) (hs : s.size ≤ 2097152) (hv : Hid (ParV w)) (h : parN s.data.toList = none) :
    Calls Tryd.prog 40 #[.string s] w fun e w' => NoN e ∧ Below w.heap.size w w' := by
  by_cases hok : ∃ v, Lib.atoiAll s.data.toList = .ok v
  · obtain ⟨v, ha⟩ := hok
    have hi : ¬ Lib.itoa v = s.data.toList := fun hi => by
      rw [parN, ha] at h
      simp only at h
      rw [if_pos hi] at h
      cases h
    obtain ⟨n0, n1⟩ := Lib.atoiAll_bounds ha
    obtain ⟨t, ht⟩ : ∃ t, t = itB v := ⟨_, rfl⟩
    have hne : ¬ t = s := fun e => hi (itB_eq.1 (ht.symm.trans e))
    have HA : Hid (∀ W, Calls Tryd.prog 73 #[.string s] W fun e w' => e = .returned (.tuple #[.int .i64 v, .nilIface]) ∧ Below W.heap.size W w') := fun W => atoiOk_any s v W hs ha
    have HI : Hid (∀ W, TabP W → Calls Tryd.prog 56 #[.int .i64 v] W fun e w' => e = .returned (.string t) ∧ Below W.heap.size W w') := fun W hT => by rw [ht]; exact itoaW_any v W n0 n1 hT
    clear ha hi n0 n1 ht h
    have hbe : (t.toList == s.toList) = false := (bytes_neq_iff t s).2 hne
    go_enter Tryd.func40, Tryd.ntmps40
    go_wp2_with fail
    refine (HA.out _).mono ?_
    rintro e w1 ⟨rfl, b1⟩
    go_wp2_with fail
    refine (HI.out _ (hv.out.tab.below b1)).mono ?_
    rintro e w2 ⟨rfl, b2⟩
    have B2 : Below w.heap.size w w2 := b1.trans (b2.mono b1.size)
    go_wp2
    go_ret2
    exact ⟨⟨v, rfl⟩, B2⟩
  · have HA : Hid (∀ W, ParV W → Calls Tryd.prog 73 #[.string s] W fun e w' => ∃ (n : Int) (t : TypeId) (p : Value), e = .returned (.tuple #[.int .i64 n, .iface t p]) ∧ Below W.heap.size W w') := fun W hW => atoiNo_any s W hs hW (fun v e => hok ⟨v, e⟩)
    clear hok h
    go_enter Tryd.func40, Tryd.ntmps40
    go_wp2_with fail
    refine (HA.out _ hv.out).mono ?_
    rintro e w1 ⟨n, t, p, rfl, b1⟩
    go_wp2
    go_ret2
    exact ⟨⟨n, rfl⟩, b1⟩
end Go.Proofs.YtgpocbhlcmohmaaDoor
