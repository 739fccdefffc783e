/- Slices of ints: the laws' conversions, comparison of equals, marks. -/
import Derived.Test.YtphdcamihkgdiaaDs
import Derived.Test.YtphdcamihkgdiaaHasI
namespace Go.Proofs.Ytphdcamihkgdiaa
open Go.RowKit

theorem Try.infoInt : (Try.prog.info? 3).map (fun i => (i.zero, i.size, i.bytes)) = some (some (.int .i64 0), 1, 8) := by kernel_rfl

theorem made_zero1 (n : Nat) : (madeCells #[Value.int .i64 0] n).toList = (List.replicate n (0 : Int)).map (Value.int .i64) := by
  unfold madeCells
  rw [List.map_replicate, Array.toList_map, List.eq_replicate_iff]
  refine ⟨by simp, fun v hv => ?_⟩
  obtain ⟨i, _, rfl⟩ := List.mem_map.1 hv
  show (#[.int .i64 0] : Array Value)[i % 1]! = _
  rw [Nat.mod_one]
  rfl
theorem FlatIn.slot1 {w : World} {g : Nat} {zs : List Int} {lo hi k : Nat} (h : FlatIn w (some ⟨g, 0, none⟩) zs lo hi) (hk : k < zs.length) :
    (∃ z : Int, w.cell? ⟨g, k, none⟩ = some (.int .i64 z)) ∧ (∀ o, w.frozen? ⟨g, o, none⟩ = false) ∧ lo ≤ g ∧ g < hi := by
  obtain ⟨g', e, h1, h2, h3⟩ := h.1 _ rfl
  cases e
  have c := h.2.2.cell (List.getElem?_eq_getElem hk)
  simp only [Nat.zero_add] at c
  exact ⟨⟨_, c⟩, h3, h1, h2⟩
theorem set1_step {zs ys : List Int} {k : Nat} {a : Int} (hk : k < zs.length) (h : ∀ j, j < k → zs[j]? = ys[j]?) (h0 : ys[k]? = some a) : ∀ j, j < k + 1 → (zs.set k a)[j]? = ys[j]? := by
  intro j hj
  rw [List.getElem?_set]
  by_cases e : k = j
  · subst e
    rw [if_pos rfl, if_pos hk, h0]
  · rw [if_neg e]
    exact h j (by omega)

set_option maxRecDepth 100000 in
set_option maxHeartbeats 1000000 in
theorem toIntS_any (A : Option Addr) (cap : Nat) (xs : List Int) (w : World) (hn : xs.length ≤ 1048576) (hx : Hid (FlatAt w A xs)) :
    Calls Try.prog 34 #[.slice A xs.length cap] w fun e w' => ∃ g, e = .returned (.slice (some ⟨g, 0, none⟩) xs.length xs.length) ∧ FlatIn w' (some ⟨g, 0, none⟩) xs w.heap.size w'.heap.size ∧ Below w.heap.size w w' := by
  obtain ⟨i0, hi, hz0, hz1, hz2⟩ := info_parts Try.infoInt
  go_enter Try.func34, Try.ntmps34
  go_wp2_with (at_make; refine wpList_make_full _ rfl _ _ 42 rfl w.heap.size 3 i0 (.int .i64 0) 1 Try.underlying42 hi hz0 hz1 .i64 .i64 _ _ xs.length rfl rfl rfl rfl (by rw [hz2]; omega) (by unfold maxLen; omega) (Nat.le_refl _) ?_)
  intro w1 hown hgrow
  have hown' : w1.ownsRow w.heap.size 3 1 (.slice (some ⟨w.heap.size, 0, none⟩) xs.length xs.length) xs.length ((List.replicate xs.length (0 : Int)).map (Value.int .i64)) := by
    have e := made_zero1 xs.length
    rw [← e]
    exact hown
  have F1 := Lib.hid (FlatIn.of_owns hown' rfl)
  have z1 := hgrow.size
  have B1 : Below w.heap.size w w1 := Below.grown (by go_grown) hgrow (by simp) (fun k hk => by cases hk)
  clear hown hown' hgrow
  go_wp2_with fail
  go_loopw [4] (fun i wr => ∃ (k : Nat) (zs : List Int), i = .int .i64 k ∧ k ≤ xs.length ∧ zs.length = xs.length ∧ (∀ j, j < k → zs[j]? = xs[j]?) ∧ FlatIn wr (some ⟨w.heap.size, 0, none⟩) zs w.heap.size w1.heap.size ∧ Below w.heap.size w wr ∧ w1.heap.size ≤ wr.heap.size) (fun i _ => xs.length - (intOf i).toNat)
  case atStart => exact ⟨0, _, rfl, Nat.zero_le _, by simp, fun j hj => by omega, F1.out, B1, Nat.le_refl _⟩
  case round =>
    obtain ⟨k, zs, rfl, hk, hl, hz, hf, hb, hs⟩ := hrel
    have Hf := Lib.hid hf
    have Hz := Lib.hid hz
    have Hl := Lib.hid hl
    clear hf hz hl
    by_cases hlt : k < xs.length
    · obtain ⟨x, hkx⟩ : ∃ x, xs[k]? = some x := ⟨_, List.getElem?_eq_getElem hlt⟩
      obtain ⟨b, off, rfl, hbl, hc⟩ := hx.out k x hkx
      have Hkx := Lib.hid hkx
      clear hkx
      have c0 := (hb.cell (p := ⟨b, off + k, none⟩) hbl).trans hc
      obtain ⟨⟨z0, d0⟩, f2, _, hg⟩ := Hf.out.slot1 (k := k) (by rw [Hl.out]; exact hlt)
      clear hc
      go_wp2
      go_roundw
      case rel =>
        refine ⟨k + 1, zs.set k x, by go_num, by omega, by rw [List.length_set]; exact Hl.out, set1_step (by rw [Hl.out]; exact hlt) Hz.out Hkx.out, Hf.out.set k x, ?_, ?_⟩
        · go_grown
        · go_size
      case measure => simp [intOf]; omega
    · go_wp2
      go_ret
      have hkn : k = xs.length := by omega
      have hzs : zs = xs := eq_of_at (n := xs.length) Hl.out rfl (by rw [← hkn]; exact Hz.out)
      rw [hzs] at Hf
      exact ⟨_, rfl, Hf.out.mono (Nat.le_refl _) hs (Nat.le_refl _), hb⟩

set_option maxHeartbeats 1000000 in
theorem eqIntS_same (A A' : Option Addr) (cap cap' : Nat) (xs : List Int) (w : World) (hn : xs.length ≤ 9223372036854775807) (hx : Hid (FlatAt w A xs)) (hy : Hid (FlatAt w A' xs)) :
    Calls Try.prog 36 #[.slice A xs.length cap, .slice A' xs.length cap'] w fun e w' => e = .returned (.bool true) ∧ Below w.heap.size w w' := by
  go_enter Try.func36, Try.ntmps36
  go_wp2_with fail
  go_loopw [5] (fun i wr => ∃ k : Nat, i = .int .i64 k ∧ k ≤ xs.length ∧ Below w.heap.size w wr) (fun i _ => xs.length - (intOf i).toNat)
  case atStart => exact ⟨0, rfl, Nat.zero_le _, Below.refl _ _⟩
  case round =>
    obtain ⟨k, rfl, hk, hb⟩ := hrel
    by_cases hlt : k < xs.length
    · obtain ⟨x, hkx⟩ : ∃ x, xs[k]? = some x := ⟨_, List.getElem?_eq_getElem hlt⟩
      obtain ⟨b, off, rfl, hbl, hc⟩ := hx.out k x hkx
      obtain ⟨b', off', rfl, hbl', hc'⟩ := hy.out k x hkx
      clear hkx
      have c0 := (hb.cell (p := ⟨b, off + k, none⟩) hbl).trans hc
      have c0' := (hb.cell (p := ⟨b', off' + k, none⟩) hbl').trans hc'
      clear hc hc'
      have hki : (k : Int) < (xs.length : Int) := by omega
      go_wp2_with fail
      go_quiet (fail)
      go_wp2
      go_roundw
      case rel => exact ⟨k + 1, by go_num, by omega, ⟨hb.os, hb.tape, hb.output, hb.size, hb.block⟩⟩
      case measure => simp [intOf]; omega
    · go_wp2
      go_ret
      exact ⟨rfl, hb⟩

set_option maxRecDepth 100000 in
set_option maxHeartbeats 2000000 in
theorem markIntS_any (A : Option Addr) (cap n k0 : Nat) (zs0 : List Int) (lo hi : Nat) (w : World) (hn : n ≤ 1048576) (hk0 : k0 ≤ 1000000000) (hl0 : zs0.length = n) (hx : Hid (FlatIn w A zs0 lo hi)) :
    Calls Try.prog 37 #[.slice A n cap, .int .i64 (k0 : Int)] w fun e w' => e = .returned (.int .i64 ((k0 + n : Nat) : Int)) ∧ FlatIn w' A (marks k0 n) lo hi ∧ Touch lo hi w w' := by
  go_enter Try.func37, Try.ntmps37
  go_wp2_with fail
  go_loopw [1, 5] (fun m i wr => ∃ (k : Nat) (zs : List Int), i = .int .i64 k ∧ k ≤ n ∧ m = .int .i64 ((k0 + k : Nat) : Int) ∧ zs.length = n ∧ (∀ j, j < k → zs[j]? = (marks k0 n)[j]?) ∧ FlatIn wr A zs lo hi ∧ Touch lo hi w wr) (fun _ i _ => n - (intOf i).toNat)
  case atStart => exact ⟨0, zs0, rfl, Nat.zero_le _, rfl, hl0, fun j hj => by omega, hx.out, Touch.refl _ _ _⟩
  case round =>
    obtain ⟨k, zs, rfl, hk, rfl, hl, hz, hf, ht⟩ := hrel
    have Hf := Lib.hid hf
    have Hz := Lib.hid hz
    have Ht := Lib.hid ht
    have Hl := Lib.hid hl
    clear hf hz ht hl
    by_cases hlt : k < n
    · obtain ⟨g, rfl⟩ : ∃ g, A = some ⟨g, 0, none⟩ := by
        obtain ⟨b, off, rfl, _, _⟩ := Hf.out.2.2 k (zs[k]'(by rw [Hl.out]; exact hlt)) (List.getElem?_eq_getElem _)
        obtain ⟨g, e, _⟩ := Hf.out.1 _ rfl
        exact ⟨g, by rw [e]⟩
      obtain ⟨⟨z0, d0⟩, f2, hg1, hg2⟩ := Hf.out.slot1 (k := k) (by rw [Hl.out]; exact hlt)
      go_wp2
      go_roundw
      case rel =>
        exact ⟨k + 1, zs.set k _, by go_num, by omega, by go_num, by rw [List.length_set]; exact Hl.out, set1_step (by rw [Hl.out]; exact hlt) Hz.out (marks_at hlt), Hf.out.set k _, Ht.out.set hg1 hg2 _⟩
      case measure => simp [intOf]; omega
    · go_wp2
      go_ret
      have hkn : k = n := by omega
      subst hkn
      have hzs : zs = marks k0 k := eq_of_at (n := k) Hl.out (marks_len _ _) Hz.out
      rw [hzs] at Hf
      exact ⟨rfl, Hf.out, Ht.out⟩
end Go.Proofs.Ytphdcamihkgdiaa
