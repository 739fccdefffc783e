/- The reference's draws of numbers and ring numbers: some number within bounds, and nothing turned but the cursor. -/
import Derived.Test.YtlihnipbdckmkaaDrw
import Derived.Test.YtlihnipbdckmkaaRing
namespace Go.Proofs.Ytlihnipbdckmkaa
open Go.RowKit

theorem Touch.rule {lo hi : Nat} {w w' : World} (h : Touch lo hi w w') {S : Nat} (h1 : S < w.heap.size) (h2 : S < lo ∨ hi ≤ S) : (∀ o, w'.cell? ⟨S, o, none⟩ = w.cell? ⟨S, o, none⟩) ∧ (∀ o, w'.frozen? ⟨S, o, none⟩ = w.frozen? ⟨S, o, none⟩) :=
  ⟨fun o => h.cell S o h1 h2, fun o => h.frozen S o h1 h2⟩

/-- behind stores into memory of the call's own -/
theorem Dr.keep {w w4 w' : World} {g : Nat} {A : Option Addr} {n cap T T0 T' cap0 : Nat} (h : Dr w4 g A n cap T) (h0 : Dr w g A n cap0 T0) (ht : Touch g (g + 1) w w') (hs : w4.heap.size ≤ w'.heap.size) (hg : w'.heap[g]? = w4.heap[g]?) (hT : T ≤ T') : Dr w' g A n cap T' :=
  have c := fun o => World.cell?_of_block (a := ⟨g, o, none⟩) hg
  ⟨Nat.lt_of_lt_of_le h.lt hs, h0.code.touch ht, (c 0).trans h.c0, let ⟨a, s, h1, h2, h3, h4⟩ := h.st; ⟨a, s, Nat.le_trans h1 hT, (c 1).trans h2, (c 2).trans h3, h4⟩, fun o => (World.frozen?_of_block (a := ⟨g, o, none⟩) hg).trans (h.free o)⟩
theorem set4_far (w : World) {S g : Nat} (h : g ≠ S) (a b c d : Value) : ((((w.setCell ⟨S, 0, none⟩ a).setCell ⟨S, 1, none⟩ b).setCell ⟨S, 2, none⟩ c).setCell ⟨S, 3, none⟩ d).heap[g]? = w.heap[g]? :=
  (Below.heap_setCell _ ⟨S, 3, none⟩ d g h).trans ((Below.heap_setCell _ ⟨S, 2, none⟩ c g h).trans ((Below.heap_setCell _ ⟨S, 1, none⟩ b g h).trans (Below.heap_setCell _ ⟨S, 0, none⟩ a g h)))
theorem set4_size (w : World) (S : Nat) (a b c d : Value) : ((((w.setCell ⟨S, 0, none⟩ a).setCell ⟨S, 1, none⟩ b).setCell ⟨S, 2, none⟩ c).setCell ⟨S, 3, none⟩ d).heap.size = w.heap.size := by simp [World.setCell]
theorem Touch.set4 {w w4 : World} {g S : Nat} (ht : Touch g (g + 1) w w4) (hS : w.heap.size ≤ S) (a b c d : Value) : Touch g (g + 1) w ((((w4.setCell ⟨S, 0, none⟩ a).setCell ⟨S, 1, none⟩ b).setCell ⟨S, 2, none⟩ c).setCell ⟨S, 3, none⟩ d) :=
  (((ht.setNew hS a).setNew hS b).setNew hS c).setNew hS d
/-- .. four numbers -/
theorem Dr.set4 {w w4 : World} {g : Nat} {A : Option Addr} {n cap T T0 T' cap0 S : Nat} (h : Dr w4 g A n cap T) (h0 : Dr w g A n cap0 T0) (ht : Touch g (g + 1) w w4) (hT : T ≤ T') (hS : w.heap.size ≤ S) (a b c d : Value) :
    Dr ((((w4.setCell ⟨S, 0, none⟩ a).setCell ⟨S, 1, none⟩ b).setCell ⟨S, 2, none⟩ c).setCell ⟨S, 3, none⟩ d) g A n cap T' :=
  h.keep h0 (ht.set4 hS a b c d) (by rw [set4_size]; exact Nat.le_refl _) (set4_far _ (by have := h0.lt; omega) _ _ _ _) hT

set_option maxRecDepth 100000 in
set_option maxHeartbeats 4000000 in
theorem pick_any (g : Nat) (A : Option Addr) (n cap T : Nat) (m : Int) (w : World) (hd : Hid (Dr w g A n cap T)) (hT : T ≤ 900000) (hm1 : 1 ≤ m) (hm2 : m ≤ 1000000) :
    Calls Try.prog 52 #[.pointer (some ⟨g, 0, none⟩), .int .i64 m] w fun e w' => ∃ k : Int, e = .returned (.int .i64 k) ∧ 0 ≤ k ∧ k < m ∧ Dr w' g A n cap (T + 2) ∧ Touch g (g + 1) w w' := by
  by_cases h1 : m ≤ 1
  · go_enter Try.func52, Try.ntmps52
    go_wp2
    go_ret
    exact ⟨_, rfl, by omega, by omega, hd.out.more (by omega), Touch.refl _ _ _⟩
  by_cases h2 : m ≤ 200
  · go_enter Try.func52, Try.ntmps52
    go_wp2_with fail
    refine (next_any g A n cap T _ hd (by omega)).mono ?_
    rintro e w1 ⟨b, rfl, hb0, hb1, hd1, ht1⟩
    have Hd1 := Lib.hid hd1
    clear hd1
    go_wp2
    go_ret
    exact ⟨_, rfl, Int.emod_nonneg _ (by omega), Int.emod_lt_of_pos _ (by omega), Hd1.out.more (by omega), ht1⟩
  · go_enter Try.func52, Try.ntmps52
    go_wp2_with fail
    refine (next_any g A n cap T _ hd (by omega)).mono ?_
    rintro e w1 ⟨b, rfl, hb0, hb1, hd1, ht1⟩
    have Hd1 := Lib.hid hd1
    clear hd1
    go_wp2_with fail
    refine (next_any g A n cap (T + 1) _ Hd1 (by omega)).mono ?_
    rintro e w2 ⟨c, rfl, hc0, hc1, hd2, ht2⟩
    have Hd2 := Lib.hid hd2
    clear hd2
    go_wp2
    go_ret
    exact ⟨_, rfl, Int.emod_nonneg _ (by omega), Int.emod_lt_of_pos _ (by omega), Hd2.out, ht1.trans ht2⟩

set_option maxHeartbeats 1000000 in
theorem one_any (g : Nat) (A : Option Addr) (n cap T : Nat) (m : Int) (w : World) (hd : Hid (Dr w g A n cap T)) (hT : T ≤ 900000) (hm1 : 1 ≤ m) (hm2 : m ≤ 1000000) :
    Calls Try.prog 44 #[.pointer (some ⟨g, 0, none⟩), .int .i64 m] w fun e w' => ∃ k : Bool, e = .returned (.bool k) ∧ Dr w' g A n cap (T + 2) ∧ Touch g (g + 1) w w' := by
  go_enter Try.func44, Try.ntmps44
  go_wp2_with fail
  refine (pick_any g A n cap T m _ hd hT hm1 hm2).mono ?_
  rintro e w1 ⟨b, rfl, hb0, hb1, hd1, ht1⟩
  have Hd1 := Lib.hid hd1
  clear hd1
  go_wp2
  go_ret
  exact ⟨_, rfl, Hd1.out, ht1⟩

set_option maxHeartbeats 1000000 in
theorem among_any (g : Nat) (A : Option Addr) (n cap T : Nat) (b c : Nat) (zs : List Int) (w : World) (hd : Hid (Dr w g A n cap T)) (hT : T ≤ 900000) (hl1 : 1 ≤ zs.length) (hl2 : zs.length ≤ 1000000) (hbg : b ≠ g) (hbl : b < w.heap.size)
    (hz : Hid (∀ j z, zs[j]? = some z → w.cell? ⟨b, j, none⟩ = some (.int .i64 z))) :
    Calls Try.prog 65 #[.pointer (some ⟨g, 0, none⟩), .slice (some ⟨b, 0, none⟩) zs.length c] w fun e w' => ∃ k : Int, e = .returned (.int .i64 k) ∧ k ∈ zs ∧ Dr w' g A n cap (T + 2) ∧ Touch g (g + 1) w w' := by
  go_enter Try.func65, Try.ntmps65
  go_wp2_with fail
  refine (pick_any g A n cap T (zs.length : Int) _ hd hT (by omega) (by omega)).mono ?_
  rintro e w1 ⟨k, rfl, hb0, hb1, hd1, ht1⟩
  obtain ⟨k, rfl⟩ := Int.eq_ofNat_of_zero_le hb0
  obtain ⟨z, hkz⟩ : ∃ z, zs[k]? = some z := ⟨_, List.getElem?_eq_getElem (by omega)⟩
  have hc := (ht1.cell b k hbl (by omega)).trans (hz.out k z hkz)
  have Hd1 := Lib.hid hd1
  have Hk := Lib.hid (List.mem_of_getElem? hkz)
  clear hd1 hkz
  go_wp2
  go_ret
  exact ⟨_, rfl, Hk.out, Hd1.out, ht1⟩

end Go.Proofs.Ytlihnipbdckmkaa
