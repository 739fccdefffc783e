/- Validity of matrices, of the program and of the reference. -/
import Derived.Test.YtcmkkjdleihjfaaMx
import Derived.Test.YtcmkkjdleihjfaaL2C
namespace Go.Proofs.Ytcmkkjdleihjfaa
open Go.RowKit

theorem FlatAt.of_row {w : World} {g : Nat} {t : TypeId} {fr : Nat × Nat} {zs : List Int} (h : w.heap[g]? = some (.cells (zs.map (Value.int .i64)).toArray t fr)) : FlatAt w (some ⟨g, 0, none⟩) zs := by
  intro j z hz
  refine ⟨g, 0, rfl, (Array.getElem?_eq_some_iff.1 h).1, ?_⟩
  rw [cell_of_row w g (0 + j) _ t fr h]
  simp [hz]

set_option maxHeartbeats 1000000 in
theorem l1Has_any (A : Option Addr) (cap : Nat) (xs : List Int) (n : Int) (w : World) (hm : xs.length ≤ 9223372036854775807) (hx : Hid (FlatAt w A xs)) :
    Calls Try.prog 135 #[.slice A xs.length cap, .int .i64 n] w fun e w' => e = .returned (.bool (xs.contains n)) ∧ w = w' := by
  go_enter Try.func135, Try.ntmps135
  go_wp2
  go_loop [9] (fun i => ∃ k : Nat, k ≤ xs.length ∧ i = .int .i64 k ∧ (xs.take k).contains n = false) (fun i => xs.length - (intOf i).toNat)
  case atStart => exact ⟨0, Nat.zero_le _, rfl, rfl⟩
  case round =>
    obtain ⟨k, hk, rfl, hall⟩ := hrel
    have Hall := Lib.hid hall
    clear hall
    by_cases hlt : k < xs.length
    · obtain ⟨x, hkx⟩ : ∃ x, xs[k]? = some x := ⟨_, List.getElem?_eq_getElem hlt⟩
      obtain ⟨b, off, rfl, _, hc⟩ := hx.out k x hkx
      have Hkx := Lib.hid hkx
      clear hkx
      by_cases hxn : x = n
      · subst hxn
        go_wp2
        go_ret
        refine ⟨ret_bool ?_, rfl⟩
        have := List.mem_of_getElem? Hkx.out
        simp [this]
      · go_wp2
        go_round
        case rel =>
          refine ⟨k + 1, by omega, by go_num, ?_⟩
          obtain ⟨hk', e⟩ := List.getElem?_eq_some_iff.1 Hkx.out
          have h := Hall.out
          rw [List.take_succ_eq_append_getElem hk', e]
          rw [List.contains_eq_mem, decide_eq_false_iff_not] at h ⊢
          intro h1
          rcases List.mem_append.1 h1 with h2 | h2
          · exact h h2
          · simp at h2
            exact hxn h2.symm
        case measure => simp [intOf]; omega
    · go_wp2
      go_ret
      have e : k = xs.length := by omega
      subst e
      have := Hall.out
      rw [List.take_length] at this
      exact ⟨ret_bool (by rw [← List.contains_eq_mem, this]), rfl⟩

def dimB (n : Int) : Bool := [1, 2, 4, 8, 16, 32].contains n
theorem dimB_iff {n : Int} : dimB n = true ↔ n = 1 ∨ n = 2 ∨ n = 4 ∨ n = 8 ∨ n = 16 ∨ n = 32 := by simp [dimB]

set_option maxHeartbeats 1000000 in
theorem l3Dim_any (n : Int) (w : World) :
    Calls Try.prog 121 #[.int .i64 n] w fun e w' => e = .returned (.bool (dimB n)) ∧ Below w.heap.size w w' := by
  go_enter Try.func121, Try.ntmps121
  go_wp2_with fail
  refine (l1Has_any _ _ [1, 2, 4, 8, 16, 32] n _ (by simp) (FlatAt.of_row (heap_top _ _ rfl))).mono ?_
  rintro e w1 ⟨rfl, rfl⟩
  go_wp2
  go_ret
  refine ⟨ret_bool (by simp [dimB]), ?_⟩
  go_grown

theorem dim_bits : ∀ m : Fin 32, (bits .and .i64 ((m.val : Int) + 1) (m.val : Int) == 0) = dimB ((m.val : Int) + 1) := by decide +kernel
theorem dim_bits' {n : Int} (h : inB n 1 32 = true) : (bits .and .i64 n (RowKit.wrap64 (n - 1)) == 0) = dimB n := by
  obtain ⟨h1, h2⟩ := inB_t.1 h
  rw [IntWalk.wrap64_in _ (by omega)]
  have := dim_bits ⟨(n - 1).toNat, by omega⟩
  have e1 : (((n - 1).toNat : Nat) : Int) = n - 1 := by omega
  simp only [e1] at this
  rw [show n - 1 + 1 = n from by omega] at this
  exact this

set_option maxHeartbeats 1000000 in
theorem isDim_any (n : Int) (w : World) :
    Calls Try.prog 123 #[.int .i64 n] w fun e w' => e = .returned (.bool (dimB n)) ∧ w = w' := by
  rcases hn : inB n 1 32 with _ | _
  · have hd : dimB n = false := by
      rw [Bool.eq_false_iff]
      intro h
      have := dimB_iff.1 h
      have := inB_f.1 hn
      omega
    go_enter Try.func123, Try.ntmps123
    go_wp2_with fail
    refine (within_any _ _ _ _).mono ?_
    rintro e w' ⟨rfl, rfl⟩
    go_wp2
    go_ret
    exact ⟨ret_bool hd.symm, rfl⟩
  · go_enter Try.func123, Try.ntmps123
    go_wp2_with fail
    refine (within_any _ _ _ _).mono ?_
    rintro e w' ⟨rfl, rfl⟩
    go_wp2
    go_ret
    exact ⟨ret_bool (dim_bits' hn), rfl⟩
end Go.Proofs.Ytcmkkjdleihjfaa
