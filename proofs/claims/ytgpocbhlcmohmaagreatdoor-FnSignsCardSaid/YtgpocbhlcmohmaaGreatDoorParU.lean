/- ParseRing, of the program. -/
import Derived.Test.YtgpocbhlcmohmaaGreatDoorParT
import Derived.Test.YtgpocbhlcmohmaaGreatDoorParM
import Derived.Test.YtgpocbhlcmohmaaGreatDoorShp
namespace Go.Proofs.YtgpocbhlcmohmaaGreatDoor
open Go.RowKit

/-- the library's bound on what is searched in one go lies in memory -/
def MaxL (w : World) : Prop := ∃ m, w.cell? ⟨0, 0, none⟩ = some (.int .i64 m)
theorem MaxL.below {w w' : World} (h : MaxL w) (hb : Below w.heap.size w w') : MaxL w' := by
  obtain ⟨m, h1⟩ := h
  exact ⟨m, (hb.cell (p := ⟨0, 0, none⟩) (World.block_lt_of_cell? w ⟨0, 0, none⟩ h1)).trans h1⟩
theorem MaxL.of_shaped {w : World} (h : w.ShapedOpen Tryz.prog) : MaxL w := Tryz.laysM146.s1_3 w h
theorem splitB_eq (s : ByteArray) (c : UInt8) : Lib.splitB ⟨#[c]⟩ 0 (Lib.countB s ⟨#[c]⟩) s = pcsB c s := by
  have h := Lib.splitB_data ⟨#[c]⟩ 0 (Lib.countB s ⟨#[c]⟩) s
  rw [show (⟨#[c]⟩ : ByteArray).data.toList = [c] from rfl, splitK_eq c _ s.data.toList rfl] at h
  unfold pcsB
  rw [← h, List.map_map]
  conv => lhs; rw [← List.map_id (Lib.splitB _ _ _ _)]
  rfl
theorem countB_len (s : ByteArray) (c : UInt8) : Lib.countB s ⟨#[c]⟩ + 1 = (pcsB c s).length := by
  rw [← splitB_eq, Lib.splitB_all ⟨#[c]⟩ (show 1 ≤ 1 from Nat.le_refl 1) 0 _ s rfl]

theorem splitW_any (s : ByteArray) (c : UInt8) (w : World) (hs : s.size ≤ 2000000) (hM : MaxL w) :
    Calls Tryz.prog 37 #[.string s, .string ⟨#[c]⟩] w fun e w' => e = .returned (.slice (some ⟨w.heap.size, 0, none⟩) (pcsB c s).length (pcsB c s).length) ∧ w' = w.alloc (.cells ((pcsB c s).map Value.string).toArray 9) := by
  obtain ⟨m, hm⟩ := hM
  have h := Any.strings_Split { Tryz.laysM146 with } Tryz.laysM146.i9 s ⟨#[c]⟩ m w (by omega) hm (show 1 ≤ 1 from Nat.le_refl 1)
  rw [splitB_eq, countB_len] at h
  exact h

set_option maxRecDepth 100000 in
set_option maxHeartbeats 2000000 in
theorem implParR_len (s : ByteArray) (w : World) (hs : s.size ≤ 2000000) (hM : Hid (MaxL w)) (hl : (pcsB 32 s).length ≠ 4) :
    Calls Tryz.prog 23 #[.string s] w fun e w' => e = .returned (.tuple #[rv 0 0 0 0, .bool false]) ∧ Below w.heap.size w w' := by
  have hlen := pcsB_len 32 s
  have DS : Hid (∀ W, MaxL W → Calls Tryz.prog 37 #[.string s, .string ⟨#[32]⟩] W fun e w' => e = .returned (.slice (some ⟨W.heap.size, 0, none⟩) (pcsB 32 s).length (pcsB 32 s).length) ∧ w' = W.alloc (.cells ((pcsB 32 s).map Value.string).toArray 9)) := fun W hW => splitW_any s 32 W hs hW
  generalize pcsB 32 s = ps at hl DS hlen
  have hli : ¬ (ps.length : Int) = 4 := by omega
  have HM := Lib.hid (hM.out.below ((Below.refl _ _).alloc (Nat.le_refl _) (.cells #[.int .i64 0, .int .i64 0, .int .i64 0, .int .i64 0] 29)))
  go_enter Tryz.func23, Tryz.ntmps23
  go_wp2_with fail
  refine (DS.out _ HM.out).mono ?_
  rintro e w1 ⟨rfl, rfl⟩
  go_wp2
  refine bodyPost_ret (by simp [results, Tryz.results23, go_sem]) rfl ⟨rfl, ?_⟩
  go_grown

/-- what lies in the program's array behind k words -/
def rowK (o0 o1 o2 o3 : Option Int) (k : Nat) : Array Value := #[.int .i64 (if 0 < k then o0.getD 0 else 0), .int .i64 (if 1 < k then o1.getD 0 else 0), .int .i64 (if 2 < k then o2.getD 0 else 0), .int .i64 (if 3 < k then o3.getD 0 else 0)]
def okK (o0 o1 o2 o3 : Option Int) (k : Nat) : Prop := (0 < k → o0.isSome = true) ∧ (1 < k → o1.isSome = true) ∧ (2 < k → o2.isSome = true) ∧ (3 < k → o3.isSome = true)
def okR (o0 o1 o2 o3 : Option Int) : Bool := o0.isSome && o1.isSome && o2.isSome && o3.isSome && rOk (o0.getD 0) (o1.getD 0) (o2.getD 0) (o3.getD 0)

set_option maxRecDepth 100000 in
set_option maxHeartbeats 2000000 in
theorem implParR_four (s x0 x1 x2 x3 : ByteArray) (o0 o1 o2 o3 : Option Int) (w : World) (hs : s.size ≤ 2000000) (hp : pcsB 32 s = [x0, x1, x2, x3]) (hz : x0.size ≤ 2000000 ∧ x1.size ≤ 2000000 ∧ x2.size ≤ 2000000 ∧ x3.size ≤ 2000000)
    (h0 : parN x0.data.toList = o0) (h1 : parN x1.data.toList = o1) (h2 : parN x2.data.toList = o2) (h3 : parN x3.data.toList = o3) (hM : Hid (MaxL w)) (hv : Hid (ParV w)) :
    Calls Tryz.prog 23 #[.string s] w fun e w' => e = .returned (.tuple #[rv (rI (okR o0 o1 o2 o3) (o0.getD 0)) (rI (okR o0 o1 o2 o3) (o1.getD 0)) (rI (okR o0 o1 o2 o3) (o2.getD 0)) (rI (okR o0 o1 o2 o3) (o3.getD 0)), .bool (okR o0 o1 o2 o3)]) ∧ Below w.heap.size w w' := by
  have DS : Hid (∀ W, MaxL W → Calls Tryz.prog 37 #[.string s, .string ⟨#[32]⟩] W fun e w' => e = .returned (.slice (some ⟨W.heap.size, 0, none⟩) 4 4) ∧ w' = W.alloc (.cells #[.string x0, .string x1, .string x2, .string x3] 9)) := fun W hW => by
    have h := splitW_any s 32 W hs hW
    rw [hp] at h
    exact h
  have HM := Lib.hid (hM.out.below ((Below.refl _ _).alloc (Nat.le_refl _) (.cells #[.int .i64 0, .int .i64 0, .int .i64 0, .int .i64 0] 29)))
  go_enter Tryz.func23, Tryz.ntmps23
  go_wp2_with fail
  refine (DS.out _ HM.out).mono ?_
  rintro e w1 ⟨rfl, rfl⟩
  go_wp2_with fail
  go_loopg [19] 4 (fun gk i wr => ∃ k : Nat, i = .int .i64 k ∧ k + gk = 4 ∧ wr.heap[w.heap.size]? = some (.cells #[.int .i64 0, .int .i64 0, .int .i64 0, .int .i64 0] 29 (0, 0)) ∧ wr.heap[w.heap.size + 1]? = some (.cells #[.string x0, .string x1, .string x2, .string x3] 9 (0, 0)) ∧ wr.heap[w.heap.size + 1 + 1]? = some (.cells (rowK o0 o1 o2 o3 k) 64 (0, 0)) ∧ okK o0 o1 o2 o3 k ∧ w.heap.size + 1 + 1 < wr.heap.size ∧ Below w.heap.size w wr)
  case atStart =>
    refine ⟨0, rfl, rfl, ?_, ?_, ?_, ?_, by go_size, by go_grown⟩
    · exact (Below.heap_alloc _ _ _ (by go_size)).trans ((Below.heap_alloc _ _ _ (by go_size)).trans (heap_top _ _ rfl))
    · exact (Below.heap_alloc _ _ _ (by go_size)).trans (heap_top _ _ (by simp))
    · exact heap_top _ _ (by simp)
    · exact ⟨fun h => absurd h (by omega), fun h => absurd h (by omega), fun h => absurd h (by omega), fun h => absurd h (by omega)⟩
  case round =>
    obtain ⟨k, rfl, hkg, hR, hS, hL, hok, hlt, hb⟩ := hrel
    have zb := hb.size
    obtain ⟨hz0, hz1, hz2, hz3⟩ := hz
    obtain rfl | rfl | rfl | rfl | rfl : k = 0 ∨ k = 1 ∨ k = 2 ∨ k = 3 ∨ k = 4 := by omega
    · have hcell := fun o => cell_of_row wr (w.heap.size + 1) o _ _ _ hS
      have q := hcell 0
      have y31 : w.heap.size + 1 < wr.heap.size := by omega
      clear hcell
      obtain e0 | ⟨v, e0⟩ : o0 = none ∨ ∃ v, o0 = some v := by rcases o0 with _ | v; exact .inl rfl; exact .inr ⟨v, rfl⟩
      · have hk0 : parN x0.data.toList = none := h0.trans e0
        have HP : Hid (∀ W, ParV W → Calls Tryz.prog 24 #[.string x0] W fun e w' => NoN e ∧ Below W.heap.size W w') := fun W hW => parseInt_no x0 W (by omega) hW hk0
        have HV := Lib.hid (hv.out.below hb)
        have Hno : Hid ((.tuple #[rv 0 0 0 0, .bool false] : Value) = .tuple #[rv (rI (okR o0 o1 o2 o3) (o0.getD 0)) (rI (okR o0 o1 o2 o3) (o1.getD 0)) (rI (okR o0 o1 o2 o3) (o2.getD 0)) (rI (okR o0 o1 o2 o3) (o3.getD 0)), .bool (okR o0 o1 o2 o3)]) := by
          show _ = _
          have h : okR o0 o1 o2 o3 = false := by simp [okR, e0]
          rw [h]
          rfl
        clear h0 h1 h2 h3 hk0 e0
        go_wp2_with fail
        refine (HP.out _ HV.out).mono ?_
        rintro e w3 ⟨⟨n, rfl⟩, b3⟩
        have B3 : Below w.heap.size w w3 := hb.trans (b3.mono zb)
        have R3 := (b3.block w.heap.size (by omega)).trans hR
        have z3 := b3.size
        have y30 : w.heap.size < w3.heap.size := by omega
        have c3 := fun o => cell_of_row w3 w.heap.size o _ _ _ R3
        have f3 := fun o => frozen_of_row w3 w.heap.size o _ _ R3
        clear R3 hR hS hL b3
        go_wp2
        refine bodyPost_ret (by simp [results, Tryz.results23, go_sem, c3]) rfl ⟨congrArg Ending.returned Hno.out, ?_⟩
        go_grown
      · have hk0 : parN x0.data.toList = some v := h0.trans e0
        have HP : Hid (∀ W, ParV W → Calls Tryz.prog 24 #[.string x0] W fun e w' => e = .returned (.tuple #[.int .i64 v, .bool true]) ∧ Below W.heap.size W w') := fun W hW => parseInt_yes x0 v W (by omega) hW hk0
        have HV := Lib.hid (hv.out.below hb)
        have Ho := Lib.hid hok
        have He := Lib.hid e0
        clear h0 h1 h2 h3 hk0 hok e0
        go_wp2_with fail
        refine (HP.out _ HV.out).mono ?_
        rintro e w3 ⟨rfl, b3⟩
        have B3 : Below w.heap.size w w3 := hb.trans (b3.mono zb)
        have z3 := b3.size
        have R3 := (b3.block w.heap.size (by omega)).trans hR
        have S3 := (b3.block (w.heap.size + 1) (by omega)).trans hS
        have L3 := (b3.block (w.heap.size + 1 + 1) hlt).trans hL
        have y32 : w.heap.size + 1 + 1 < w3.heap.size := by omega
        have c3 := fun o => cell_of_row w3 (w.heap.size + 1 + 1) o _ _ _ L3
        have f3 := fun o => frozen_of_row w3 (w.heap.size + 1 + 1) o _ _ L3
        have Hs := Lib.hid (heap_setCell_same w3 (w.heap.size + 1 + 1) 0 _ _ (.int .i64 v) L3)
        have HR := Lib.hid ((heap_setCell_other w3 ⟨w.heap.size + 1 + 1, 0, none⟩ w.heap.size (.int .i64 v) (Nat.ne_of_lt (show w.heap.size < w.heap.size + 1 + 1 by omega))).trans R3)
        have HS := Lib.hid ((heap_setCell_other w3 ⟨w.heap.size + 1 + 1, 0, none⟩ (w.heap.size + 1) (.int .i64 v) (Nat.ne_of_lt (show w.heap.size + 1 < w.heap.size + 1 + 1 by omega))).trans S3)
        clear R3 S3 L3 hR hS hL b3
        go_wp2
        go_roundg 3
        case measure => omega
        case rel =>
          refine ⟨1, rfl, rfl, HR.out, HS.out, ?_, ?_, by simpa [World.setCell] using y32, ?_⟩
          · rw [Hs.out, He.out]; rfl
          · have h := Ho.out; unfold okK at h ⊢; rw [He.out] at h ⊢; simp at h ⊢; try simp [h]
          · go_grown
    · have hcell := fun o => cell_of_row wr (w.heap.size + 1) o _ _ _ hS
      have q := hcell 1
      have y31 : w.heap.size + 1 < wr.heap.size := by omega
      clear hcell
      obtain e1 | ⟨v, e1⟩ : o1 = none ∨ ∃ v, o1 = some v := by rcases o1 with _ | v; exact .inl rfl; exact .inr ⟨v, rfl⟩
      · have hk1 : parN x1.data.toList = none := h1.trans e1
        have HP : Hid (∀ W, ParV W → Calls Tryz.prog 24 #[.string x1] W fun e w' => NoN e ∧ Below W.heap.size W w') := fun W hW => parseInt_no x1 W (by omega) hW hk1
        have HV := Lib.hid (hv.out.below hb)
        have Hno : Hid ((.tuple #[rv 0 0 0 0, .bool false] : Value) = .tuple #[rv (rI (okR o0 o1 o2 o3) (o0.getD 0)) (rI (okR o0 o1 o2 o3) (o1.getD 0)) (rI (okR o0 o1 o2 o3) (o2.getD 0)) (rI (okR o0 o1 o2 o3) (o3.getD 0)), .bool (okR o0 o1 o2 o3)]) := by
          show _ = _
          have h : okR o0 o1 o2 o3 = false := by simp [okR, e1]
          rw [h]
          rfl
        clear h0 h1 h2 h3 hk1 e1
        go_wp2_with fail
        refine (HP.out _ HV.out).mono ?_
        rintro e w3 ⟨⟨n, rfl⟩, b3⟩
        have B3 : Below w.heap.size w w3 := hb.trans (b3.mono zb)
        have R3 := (b3.block w.heap.size (by omega)).trans hR
        have z3 := b3.size
        have y30 : w.heap.size < w3.heap.size := by omega
        have c3 := fun o => cell_of_row w3 w.heap.size o _ _ _ R3
        have f3 := fun o => frozen_of_row w3 w.heap.size o _ _ R3
        clear R3 hR hS hL b3
        go_wp2
        refine bodyPost_ret (by simp [results, Tryz.results23, go_sem, c3]) rfl ⟨congrArg Ending.returned Hno.out, ?_⟩
        go_grown
      · have hk1 : parN x1.data.toList = some v := h1.trans e1
        have HP : Hid (∀ W, ParV W → Calls Tryz.prog 24 #[.string x1] W fun e w' => e = .returned (.tuple #[.int .i64 v, .bool true]) ∧ Below W.heap.size W w') := fun W hW => parseInt_yes x1 v W (by omega) hW hk1
        have HV := Lib.hid (hv.out.below hb)
        have Ho := Lib.hid hok
        have He := Lib.hid e1
        clear h0 h1 h2 h3 hk1 hok e1
        go_wp2_with fail
        refine (HP.out _ HV.out).mono ?_
        rintro e w3 ⟨rfl, b3⟩
        have B3 : Below w.heap.size w w3 := hb.trans (b3.mono zb)
        have z3 := b3.size
        have R3 := (b3.block w.heap.size (by omega)).trans hR
        have S3 := (b3.block (w.heap.size + 1) (by omega)).trans hS
        have L3 := (b3.block (w.heap.size + 1 + 1) hlt).trans hL
        have y32 : w.heap.size + 1 + 1 < w3.heap.size := by omega
        have c3 := fun o => cell_of_row w3 (w.heap.size + 1 + 1) o _ _ _ L3
        have f3 := fun o => frozen_of_row w3 (w.heap.size + 1 + 1) o _ _ L3
        have Hs := Lib.hid (heap_setCell_same w3 (w.heap.size + 1 + 1) 1 _ _ (.int .i64 v) L3)
        have HR := Lib.hid ((heap_setCell_other w3 ⟨w.heap.size + 1 + 1, 1, none⟩ w.heap.size (.int .i64 v) (Nat.ne_of_lt (show w.heap.size < w.heap.size + 1 + 1 by omega))).trans R3)
        have HS := Lib.hid ((heap_setCell_other w3 ⟨w.heap.size + 1 + 1, 1, none⟩ (w.heap.size + 1) (.int .i64 v) (Nat.ne_of_lt (show w.heap.size + 1 < w.heap.size + 1 + 1 by omega))).trans S3)
        clear R3 S3 L3 hR hS hL b3
        go_wp2
        go_roundg 2
        case measure => omega
        case rel =>
          refine ⟨2, rfl, rfl, HR.out, HS.out, ?_, ?_, by simpa [World.setCell] using y32, ?_⟩
          · rw [Hs.out, He.out]; rfl
          · have h := Ho.out; unfold okK at h ⊢; rw [He.out] at h ⊢; simp at h ⊢; try simp [h]
          · go_grown
    · have hcell := fun o => cell_of_row wr (w.heap.size + 1) o _ _ _ hS
      have q := hcell 2
      have y31 : w.heap.size + 1 < wr.heap.size := by omega
      clear hcell
      obtain e2 | ⟨v, e2⟩ : o2 = none ∨ ∃ v, o2 = some v := by rcases o2 with _ | v; exact .inl rfl; exact .inr ⟨v, rfl⟩
      · have hk2 : parN x2.data.toList = none := h2.trans e2
        have HP : Hid (∀ W, ParV W → Calls Tryz.prog 24 #[.string x2] W fun e w' => NoN e ∧ Below W.heap.size W w') := fun W hW => parseInt_no x2 W (by omega) hW hk2
        have HV := Lib.hid (hv.out.below hb)
        have Hno : Hid ((.tuple #[rv 0 0 0 0, .bool false] : Value) = .tuple #[rv (rI (okR o0 o1 o2 o3) (o0.getD 0)) (rI (okR o0 o1 o2 o3) (o1.getD 0)) (rI (okR o0 o1 o2 o3) (o2.getD 0)) (rI (okR o0 o1 o2 o3) (o3.getD 0)), .bool (okR o0 o1 o2 o3)]) := by
          show _ = _
          have h : okR o0 o1 o2 o3 = false := by simp [okR, e2]
          rw [h]
          rfl
        clear h0 h1 h2 h3 hk2 e2
        go_wp2_with fail
        refine (HP.out _ HV.out).mono ?_
        rintro e w3 ⟨⟨n, rfl⟩, b3⟩
        have B3 : Below w.heap.size w w3 := hb.trans (b3.mono zb)
        have R3 := (b3.block w.heap.size (by omega)).trans hR
        have z3 := b3.size
        have y30 : w.heap.size < w3.heap.size := by omega
        have c3 := fun o => cell_of_row w3 w.heap.size o _ _ _ R3
        have f3 := fun o => frozen_of_row w3 w.heap.size o _ _ R3
        clear R3 hR hS hL b3
        go_wp2
        refine bodyPost_ret (by simp [results, Tryz.results23, go_sem, c3]) rfl ⟨congrArg Ending.returned Hno.out, ?_⟩
        go_grown
      · have hk2 : parN x2.data.toList = some v := h2.trans e2
        have HP : Hid (∀ W, ParV W → Calls Tryz.prog 24 #[.string x2] W fun e w' => e = .returned (.tuple #[.int .i64 v, .bool true]) ∧ Below W.heap.size W w') := fun W hW => parseInt_yes x2 v W (by omega) hW hk2
        have HV := Lib.hid (hv.out.below hb)
        have Ho := Lib.hid hok
        have He := Lib.hid e2
        clear h0 h1 h2 h3 hk2 hok e2
        go_wp2_with fail
        refine (HP.out _ HV.out).mono ?_
        rintro e w3 ⟨rfl, b3⟩
        have B3 : Below w.heap.size w w3 := hb.trans (b3.mono zb)
        have z3 := b3.size
        have R3 := (b3.block w.heap.size (by omega)).trans hR
        have S3 := (b3.block (w.heap.size + 1) (by omega)).trans hS
        have L3 := (b3.block (w.heap.size + 1 + 1) hlt).trans hL
        have y32 : w.heap.size + 1 + 1 < w3.heap.size := by omega
        have c3 := fun o => cell_of_row w3 (w.heap.size + 1 + 1) o _ _ _ L3
        have f3 := fun o => frozen_of_row w3 (w.heap.size + 1 + 1) o _ _ L3
        have Hs := Lib.hid (heap_setCell_same w3 (w.heap.size + 1 + 1) 2 _ _ (.int .i64 v) L3)
        have HR := Lib.hid ((heap_setCell_other w3 ⟨w.heap.size + 1 + 1, 2, none⟩ w.heap.size (.int .i64 v) (Nat.ne_of_lt (show w.heap.size < w.heap.size + 1 + 1 by omega))).trans R3)
        have HS := Lib.hid ((heap_setCell_other w3 ⟨w.heap.size + 1 + 1, 2, none⟩ (w.heap.size + 1) (.int .i64 v) (Nat.ne_of_lt (show w.heap.size + 1 < w.heap.size + 1 + 1 by omega))).trans S3)
        clear R3 S3 L3 hR hS hL b3
        go_wp2
        go_roundg 1
        case measure => omega
        case rel =>
          refine ⟨3, rfl, rfl, HR.out, HS.out, ?_, ?_, by simpa [World.setCell] using y32, ?_⟩
          · rw [Hs.out, He.out]; rfl
          · have h := Ho.out; unfold okK at h ⊢; rw [He.out] at h ⊢; simp at h ⊢; try simp [h]
          · go_grown
    · have hcell := fun o => cell_of_row wr (w.heap.size + 1) o _ _ _ hS
      have q := hcell 3
      have y31 : w.heap.size + 1 < wr.heap.size := by omega
      clear hcell
      obtain e3 | ⟨v, e3⟩ : o3 = none ∨ ∃ v, o3 = some v := by rcases o3 with _ | v; exact .inl rfl; exact .inr ⟨v, rfl⟩
      · have hk3 : parN x3.data.toList = none := h3.trans e3
        have HP : Hid (∀ W, ParV W → Calls Tryz.prog 24 #[.string x3] W fun e w' => NoN e ∧ Below W.heap.size W w') := fun W hW => parseInt_no x3 W (by omega) hW hk3
        have HV := Lib.hid (hv.out.below hb)
        have Hno : Hid ((.tuple #[rv 0 0 0 0, .bool false] : Value) = .tuple #[rv (rI (okR o0 o1 o2 o3) (o0.getD 0)) (rI (okR o0 o1 o2 o3) (o1.getD 0)) (rI (okR o0 o1 o2 o3) (o2.getD 0)) (rI (okR o0 o1 o2 o3) (o3.getD 0)), .bool (okR o0 o1 o2 o3)]) := by
          show _ = _
          have h : okR o0 o1 o2 o3 = false := by simp [okR, e3]
          rw [h]
          rfl
        clear h0 h1 h2 h3 hk3 e3
        go_wp2_with fail
        refine (HP.out _ HV.out).mono ?_
        rintro e w3 ⟨⟨n, rfl⟩, b3⟩
        have B3 : Below w.heap.size w w3 := hb.trans (b3.mono zb)
        have R3 := (b3.block w.heap.size (by omega)).trans hR
        have z3 := b3.size
        have y30 : w.heap.size < w3.heap.size := by omega
        have c3 := fun o => cell_of_row w3 w.heap.size o _ _ _ R3
        have f3 := fun o => frozen_of_row w3 w.heap.size o _ _ R3
        clear R3 hR hS hL b3
        go_wp2
        refine bodyPost_ret (by simp [results, Tryz.results23, go_sem, c3]) rfl ⟨congrArg Ending.returned Hno.out, ?_⟩
        go_grown
      · have hk3 : parN x3.data.toList = some v := h3.trans e3
        have HP : Hid (∀ W, ParV W → Calls Tryz.prog 24 #[.string x3] W fun e w' => e = .returned (.tuple #[.int .i64 v, .bool true]) ∧ Below W.heap.size W w') := fun W hW => parseInt_yes x3 v W (by omega) hW hk3
        have HV := Lib.hid (hv.out.below hb)
        have Ho := Lib.hid hok
        have He := Lib.hid e3
        clear h0 h1 h2 h3 hk3 hok e3
        go_wp2_with fail
        refine (HP.out _ HV.out).mono ?_
        rintro e w3 ⟨rfl, b3⟩
        have B3 : Below w.heap.size w w3 := hb.trans (b3.mono zb)
        have z3 := b3.size
        have R3 := (b3.block w.heap.size (by omega)).trans hR
        have S3 := (b3.block (w.heap.size + 1) (by omega)).trans hS
        have L3 := (b3.block (w.heap.size + 1 + 1) hlt).trans hL
        have y32 : w.heap.size + 1 + 1 < w3.heap.size := by omega
        have c3 := fun o => cell_of_row w3 (w.heap.size + 1 + 1) o _ _ _ L3
        have f3 := fun o => frozen_of_row w3 (w.heap.size + 1 + 1) o _ _ L3
        have Hs := Lib.hid (heap_setCell_same w3 (w.heap.size + 1 + 1) 3 _ _ (.int .i64 v) L3)
        have HR := Lib.hid ((heap_setCell_other w3 ⟨w.heap.size + 1 + 1, 3, none⟩ w.heap.size (.int .i64 v) (Nat.ne_of_lt (show w.heap.size < w.heap.size + 1 + 1 by omega))).trans R3)
        have HS := Lib.hid ((heap_setCell_other w3 ⟨w.heap.size + 1 + 1, 3, none⟩ (w.heap.size + 1) (.int .i64 v) (Nat.ne_of_lt (show w.heap.size + 1 < w.heap.size + 1 + 1 by omega))).trans S3)
        clear R3 S3 L3 hR hS hL b3
        go_wp2
        go_roundg 0
        case measure => omega
        case rel =>
          refine ⟨4, rfl, rfl, HR.out, HS.out, ?_, ?_, by simpa [World.setCell] using y32, ?_⟩
          · rw [Hs.out, He.out]; rfl
          · have h := Ho.out; unfold okK at h ⊢; rw [He.out] at h ⊢; simp at h ⊢; try simp [h]
          · go_grown
    · have hRc := fun o => cell_of_row wr w.heap.size o _ _ _ hR
      have hRf := fun o => frozen_of_row wr w.heap.size o _ _ hR
      have y30 : w.heap.size < wr.heap.size := by omega
      obtain ⟨⟨v0, rfl⟩, ⟨v1, rfl⟩, ⟨v2, rfl⟩, ⟨v3, rfl⟩⟩ : (∃ v, o0 = some v) ∧ (∃ v, o1 = some v) ∧ (∃ v, o2 = some v) ∧ (∃ v, o3 = some v) := by
        obtain ⟨g0, g1, g2, g3⟩ := hok
        exact ⟨Option.isSome_iff_exists.1 (g0 (by omega)), Option.isSome_iff_exists.1 (g1 (by omega)), Option.isSome_iff_exists.1 (g2 (by omega)), Option.isSome_iff_exists.1 (g3 (by omega))⟩
      have hLc := fun o => cell_of_row wr (w.heap.size + 1 + 1) o _ _ _ hL
      have l0 : wr.cell? ⟨w.heap.size + 1 + 1, 0, none⟩ = some (.int .i64 v0) := hLc 0
      have l1 : wr.cell? ⟨w.heap.size + 1 + 1, 1, none⟩ = some (.int .i64 v1) := hLc 1
      have l2 : wr.cell? ⟨w.heap.size + 1 + 1, 2, none⟩ = some (.int .i64 v2) := hLc 2
      have l3 : wr.cell? ⟨w.heap.size + 1 + 1, 3, none⟩ = some (.int .i64 v3) := hLc 3
      have HR := Lib.hid hR
      have Hok : Hid (okR (some v0) (some v1) (some v2) (some v3) = rOk v0 v1 v2 v3) := by show _ = _; simp [okR]
      clear hLc hL hS hRc hRf hok hR h0 h1 h2 h3
      go_wp2_with fail
      refine (ringIf0 v0 v1 v2 v3 _).mono ?_
      rintro e w3 ⟨rfl, b3⟩
      unfold ringRes
      have B3 : Below w.heap.size w w3 := hb.trans (b3.mono zb)
      have R3 := (b3.block w.heap.size y30).trans HR.out
      have z3 := b3.size
      have y33 : w.heap.size < w3.heap.size := by omega
      have c3 := fun o => cell_of_row w3 w.heap.size o _ _ _ R3
      have f3 := fun o => frozen_of_row w3 w.heap.size o _ _ R3
      have Hno : Hid ((.tuple #[rv (rI (rOk v0 v1 v2 v3) v0) (rI (rOk v0 v1 v2 v3) v1) (rI (rOk v0 v1 v2 v3) v2) (rI (rOk v0 v1 v2 v3) v3), .bool (rOk v0 v1 v2 v3)] : Value) = .tuple #[rv (rI (okR (some v0) (some v1) (some v2) (some v3)) ((some v0).getD 0)) (rI (okR (some v0) (some v1) (some v2) (some v3)) ((some v1).getD 0)) (rI (okR (some v0) (some v1) (some v2) (some v3)) ((some v2).getD 0)) (rI (okR (some v0) (some v1) (some v2) (some v3)) ((some v3).getD 0)), .bool (okR (some v0) (some v1) (some v2) (some v3))]) := by
        show _ = _
        rw [Hok.out]
        rfl
      clear R3 b3
      simp only [Bool.true_and]
      go_wp2
      refine bodyPost_ret (by simp [results, Tryz.results23, go_sem, c3]) rfl ⟨congrArg Ending.returned Hno.out, ?_⟩
      go_grown
end Go.Proofs.YtgpocbhlcmohmaaGreatDoor
