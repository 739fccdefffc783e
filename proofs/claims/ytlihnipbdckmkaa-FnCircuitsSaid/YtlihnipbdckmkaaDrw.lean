/- The reference's cursor over bytes (l1Cur): it hands back some number, and turns nothing but its own memory. -/
import Derived.Test.YtlihnipbdckmkaaFlat
import Derived.Test.YtlihnipbdckmkaaNum
import Derived.Laws.BitsLemmas
import Derived.Laws.Bits64
import Derived.Conc.WgArith
namespace Go.Proofs.Ytlihnipbdckmkaa
open Go.RowKit

/-- at a slice's address stand n bytes, not in block g -/
def CodeAt (w : World) (g : Nat) (A : Option Addr) (n : Nat) : Prop :=
  ∀ j, j < n → ∃ (b off : Nat) (c : Int), A = some ⟨b, off, none⟩ ∧ b ≠ g ∧ b < w.heap.size ∧ w.cell? ⟨b, off + j, none⟩ = some (.int .u8 c) ∧ 0 ≤ c ∧ c ≤ 255
/-- block g is a cursor over n bytes that has gone at most T steps -/
structure Dr (w : World) (g : Nat) (A : Option Addr) (n cap T : Nat) : Prop where
  lt : g < w.heap.size
  code : CodeAt w g A n
  c0 : w.cell? ⟨g, 0, none⟩ = some (.slice A n cap)
  st : ∃ (a : Nat) (s : Int), a ≤ T ∧ w.cell? ⟨g, 1, none⟩ = some (.int .i64 a) ∧ w.cell? ⟨g, 2, none⟩ = some (.int .u64 s) ∧ 0 ≤ s ∧ s < 18446744073709551616
  free : ∀ o, w.frozen? ⟨g, o, none⟩ = false
theorem CodeAt.below {B : Nat} {w w' : World} {g : Nat} {A : Option Addr} {n : Nat} (h : CodeAt w g A n) (hb : Below B w w') (hB : w.heap.size ≤ B) : CodeAt w' g A n := by
  intro j hj
  obtain ⟨b, off, c, h1, h2, h3, h4, h5⟩ := h j hj
  exact ⟨b, off, c, h1, h2, Nat.lt_of_lt_of_le h3 hb.size, (hb.cell (p := ⟨b, off + j, none⟩) (Nat.lt_of_lt_of_le h3 hB)).trans h4, h5⟩
theorem CodeAt.set {w : World} {g : Nat} {A : Option Addr} {n : Nat} (h : CodeAt w g A n) (o : Nat) (v : Value) : CodeAt (w.setCell ⟨g, o, none⟩ v) g A n := by
  intro j hj
  obtain ⟨b, off, c, h1, h2, h3, h4, h5⟩ := h j hj
  exact ⟨b, off, c, h1, h2, by simpa [World.setCell] using h3, (World.cell?_of_block (a := ⟨b, off + j, none⟩) (Below.heap_setCell w ⟨g, o, none⟩ v b h2)).trans h4, h5⟩
theorem CodeAt.touch {w w' : World} {g : Nat} {A : Option Addr} {n : Nat} (h : CodeAt w g A n) (ht : Touch g (g + 1) w w') : CodeAt w' g A n := by
  intro j hj
  obtain ⟨b, off, c, h1, h2, h3, h4, h5⟩ := h j hj
  exact ⟨b, off, c, h1, h2, Nat.lt_of_lt_of_le h3 ht.size, (ht.cell b (off + j) h3 (by omega)).trans h4, h5⟩
theorem Dr.below {B : Nat} {w w' : World} {g : Nat} {A : Option Addr} {n cap T : Nat} (h : Dr w g A n cap T) (hb : Below B w w') (hB : w.heap.size ≤ B) : Dr w' g A n cap T :=
  have hg := Nat.lt_of_lt_of_le h.lt hB
  ⟨Nat.lt_of_lt_of_le h.lt hb.size, h.code.below hb hB, (hb.cell (p := ⟨g, 0, none⟩) hg).trans h.c0, let ⟨a, s, h1, h2, h3, h4⟩ := h.st; ⟨a, s, h1, (hb.cell (p := ⟨g, 1, none⟩) hg).trans h2, (hb.cell (p := ⟨g, 2, none⟩) hg).trans h3, h4⟩,
    fun o => (hb.frozen (p := ⟨g, o, none⟩) hg).trans (h.free o)⟩
theorem Dr.call {w w' : World} {g : Nat} {A : Option Addr} {n cap T : Nat} (h : Dr w g A n cap T) (hb : Below w.heap.size w w') : Dr w' g A n cap T := h.below hb (Nat.le_refl _)
theorem Dr.alloc {w : World} {g : Nat} {A : Option Addr} {n cap T : Nat} (h : Dr w g A n cap T) (o : Obj) : Dr (w.alloc o) g A n cap T := h.call (Below.alloc (Below.refl _ _) (Nat.le_refl _) o)
theorem Dr.drew {w : World} {g : Nat} {A : Option Addr} {n cap T : Nat} (h : Dr w g A n cap T) : Dr w.drew g A n cap T := ⟨h.lt, h.code, h.c0, h.st, h.free⟩
theorem Dr.far {w : World} {g : Nat} {A : Option Addr} {n cap T : Nat} (h : Dr w g A n cap T) {p : Addr} (hp : w.heap.size ≤ p.block) (u : Value) : Dr (w.setCell p u) g A n cap T :=
  h.below (B := w.heap.size) (Below.setCell (Below.refl _ _) hp u) (Nat.le_refl _)
theorem Dr.more {w : World} {g : Nat} {A : Option Addr} {n cap T T' : Nat} (h : Dr w g A n cap T) (hT : T ≤ T') : Dr w g A n cap T' :=
  ⟨h.lt, h.code, h.c0, let ⟨a, s, h1, h2⟩ := h.st; ⟨a, s, Nat.le_trans h1 hT, h2⟩, h.free⟩
/-- the two stores of a step -/
theorem Dr.step {w : World} {g : Nat} {A : Option Addr} {n cap T : Nat} (h : Dr w g A n cap T) {a : Nat} {i s : Int} (hi : i = (a : Int)) (ha : a ≤ T + 1) (h0 : 0 ≤ s) (h1 : s < 18446744073709551616) :
    Dr ((w.setCell ⟨g, 1, none⟩ (.int .i64 i)).setCell ⟨g, 2, none⟩ (.int .u64 s)) g A n cap (T + 1) := by
  subst hi
  obtain ⟨a0, s0, _, e1, e2, _⟩ := h.st
  refine ⟨by simpa [World.setCell] using h.lt, (h.code.set 1 _).set 2 _, ?_, ⟨a, s, ha, ?_, ?_, h0, h1⟩, fun o => by rw [World.frozen?_setCell, World.frozen?_setCell]; exact h.free o⟩
  · rw [World.cell?_setCell_other (h := fun e => by cases e), World.cell?_setCell_other (h := fun e => by cases e)]; exact h.c0
  · rw [World.cell?_setCell_other (h := fun e => by cases e), cell_set_same, e1]; rfl
  · rw [cell_set_same, World.cell?_setCell_other (h := fun e => by cases e), e2]; rfl
theorem Touch.step {w0 w : World} {g : Nat} (h : Touch g (g + 1) w0 w) (u v : Value) : Touch g (g + 1) w0 ((w.setCell ⟨g, 1, none⟩ u).setCell ⟨g, 2, none⟩ v) :=
  (h.set (p := ⟨g, 1, none⟩) (Nat.le_refl _) (Nat.lt_succ_self _) u).set (p := ⟨g, 2, none⟩) (Nat.le_refl _) (Nat.lt_succ_self _) v

theorem wrap_u64_bd (x : Int) : 0 ≤ IntKind.u64.wrap x ∧ IntKind.u64.wrap x < 18446744073709551616 := by
  rw [IntKind.wrap_u64]
  omega
theorem mask_bd {x : Int} (h0 : 0 ≤ x) (h1 : x < 16777216) : bits .and .u64 x 255 = x % 256 := by
  have h := bits_mask .u64 63 (by decide) Go.ConcN.wraps_u64_63 8 (by decide) x h0 (by omega)
  simpa using h

theorem seed_bd (x : Int) : 0 ≤ RowKit.wrap64 (bits .and .u64 (IntKind.u64.wrap x / 1099511627776) 255) ∧ RowKit.wrap64 (bits .and .u64 (IntKind.u64.wrap x / 1099511627776) 255) ≤ 255 := by
  have h := wrap_u64_bd x
  rw [mask_bd (by omega) (by omega), IntWalk.wrap64_in _ (by omega)]
  omega
theorem Touch.drewN {lo hi : Nat} {a w : World} (h : Touch lo hi a w) (n : Nat) : Touch lo hi a (w.drewN n) := ⟨h.os, h.tape, h.output, h.size, h.block⟩
theorem Dr.drewN {w : World} {g : Nat} {A : Option Addr} {n cap T : Nat} (h : Dr w g A n cap T) (k : Nat) : Dr (w.drewN k) g A n cap T := ⟨h.lt, h.code, h.c0, h.st, h.free⟩

set_option maxRecDepth 100000 in
set_option maxHeartbeats 4000000 in
theorem next_any (g : Nat) (A : Option Addr) (n cap T : Nat) (w : World) (hd : Hid (Dr w g A n cap T)) (hT : T ≤ 1000000) :
    Calls Try.prog 70 #[.pointer (some ⟨g, 0, none⟩)] w fun e w' => ∃ b : Int, e = .returned (.int .i64 b) ∧ 0 ≤ b ∧ b ≤ 255 ∧ Dr w' g A n cap (T + 1) ∧ Touch g (g + 1) w w' := by
  obtain ⟨hg, hcode, c0, ⟨a, s, ha, c1, c2, hs0, hs1⟩, hf⟩ := hd.out
  have Hc := Lib.hid hcode
  clear hcode
  by_cases hlt : a < n
  · obtain ⟨b, off, c, rfl, hbg, hbl, hcc, hc0, hc1⟩ := Hc.out a hlt
    go_enter Try.func70, Try.ntmps70
    go_wp2_with fail
    go_quiet (fail)
    go_wp2_with fail
    go_quiet (fail)
    go_wp2_with fail
    go_quiet (fail)
    go_wp2_with fail
    go_ret
    refine ⟨_, rfl, hc0, hc1, ?_, ?_⟩
    · repeat (refine Dr.drewN ?_ _)
      exact Dr.step (a := a + 1) (hd.out.drewN _) (by omega) (by omega) (wrap_u64_bd _).1 (wrap_u64_bd _).2
    · repeat (refine Touch.drewN ?_ _)
      exact Touch.step ((Touch.refl _ _ _).drewN _) _ _
  · go_enter Try.func70, Try.ntmps70
    go_wp2_with fail
    go_quiet (fail)
    go_wp2_with fail
    go_quiet (fail)
    go_wp2_with fail
    go_ret
    obtain ⟨hb0, hb1⟩ := seed_bd (IntKind.u64.wrap (IntKind.u64.wrap (s * 6364136223846793005)) + 1442695040888963407)
    refine ⟨_, rfl, hb0, hb1, ?_, ?_⟩
    · repeat (refine Dr.drewN ?_ _)
      exact Dr.step (a := a + 1) (hd.out.drewN _) (by omega) (by omega) (wrap_u64_bd _).1 (wrap_u64_bd _).2
    · repeat (refine Touch.drewN ?_ _)
      exact Touch.step ((Touch.refl _ _ _).drewN _) _ _
end Go.Proofs.Ytlihnipbdckmkaa
