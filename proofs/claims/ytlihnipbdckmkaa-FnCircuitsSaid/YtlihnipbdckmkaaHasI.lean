/- Membership in a slice of ints, of the reference and of Go's library. -/
import Derived.Test.YtlihnipbdckmkaaFlat
import Derived.Test.YtlihnipbdckmkaaNum
namespace Go.Proofs.Ytlihnipbdckmkaa
open Go.RowKit

theorem FlatAt.of_row {w : World} {g : Nat} {t : TypeId} {fr : Nat × Nat} {zs : List Int} (h : w.heap[g]? = some (.cells (zs.map (Value.int .i64)).toArray t fr)) : FlatAt w (some ⟨g, 0, none⟩) zs := by
  intro j z hz
  refine ⟨g, 0, rfl, (Array.getElem?_eq_some_iff.1 h).1, ?_⟩
  rw [cell_of_row w g (0 + j) _ t fr h]
  simp [hz]

set_option maxHeartbeats 1000000 in
theorem l1Has_any (A : Option Addr) (cap : Nat) (xs : List Int) (n : Int) (w : World) (hm : xs.length ≤ 9223372036854775807) (hx : Hid (FlatAt w A xs)) :
    Calls Try.prog 55 #[.slice A xs.length cap, .int .i64 n] w fun e w' => e = .returned (.bool (xs.contains n)) ∧ w = w' := by
  go_enter Try.func55, Try.ntmps55
  go_wp2
  go_loop [9] (fun i => ∃ k : Nat, k ≤ xs.length ∧ i = .int .i64 k ∧ (xs.take k).contains n = false) (fun i => xs.length - (intOf i).toNat)
  case atStart => exact ⟨0, Nat.zero_le _, rfl, rfl⟩
  case round =>
    obtain ⟨k, hk, rfl, hall⟩ := hrel
    have Hall := Lib.hid hall
    clear hall
    by_cases hlt : k < xs.length
    · obtain ⟨x, hkx⟩ : ∃ x, xs[k]? = some x := ⟨_, List.getElem?_eq_getElem hlt⟩
      obtain ⟨b, off, rfl, _, hc⟩ := hx.out k x hkx
      have Hkx := Lib.hid hkx
      clear hkx
      by_cases hxn : x = n
      · subst hxn
        go_wp2
        go_ret
        refine ⟨ret_bool ?_, rfl⟩
        have := List.mem_of_getElem? Hkx.out
        simp [this]
      · go_wp2
        go_round
        case rel =>
          refine ⟨k + 1, by omega, by go_num, ?_⟩
          obtain ⟨hk', e⟩ := List.getElem?_eq_some_iff.1 Hkx.out
          have h := Hall.out
          rw [List.take_succ_eq_append_getElem hk', e]
          rw [List.contains_eq_mem, decide_eq_false_iff_not] at h ⊢
          intro h1
          rcases List.mem_append.1 h1 with h2 | h2
          · exact h h2
          · simp at h2
            exact hxn h2.symm
        case measure => simp [intOf]; omega
    · go_wp2
      go_ret
      have e : k = xs.length := by omega
      subst e
      have := Hall.out
      rw [List.take_length] at this
      exact ⟨ret_bool (by rw [← List.contains_eq_mem, this]), rfl⟩

/-- some index, at least 0 just if the number is there -/
def FoundI (xs : List Int) (n : Int) (w : World) (e : Ending) (w' : World) : Prop := ∃ i : Int, e = .returned (.int .i64 i) ∧ decide (0 ≤ i) = xs.contains n ∧ w = w'

set_option maxHeartbeats 2000000 in
theorem indexI_any (A : Option Addr) (cap : Nat) (xs : List Int) (n : Int) (w : World) (hm : xs.length ≤ 9223372036854775807) (hx : Hid (FlatAt w A xs)) :
    Calls Try.prog 71 #[.slice A xs.length cap, .int .i64 n] w fun e w' => FoundI xs n w e w' := by
  go_enter Try.func71, Try.ntmps71
  go_wp2
  go_loop [8] (fun i => ∃ k : Nat, k ≤ xs.length ∧ i = .int .i64 k ∧ (xs.take k).contains n = false) (fun i => xs.length - (intOf i).toNat)
  case atStart => exact ⟨0, Nat.zero_le _, rfl, rfl⟩
  case round =>
    obtain ⟨k, hk, rfl, hall⟩ := hrel
    have Hall := Lib.hid hall
    clear hall
    by_cases hlt : k < xs.length
    · obtain ⟨x, hkx⟩ : ∃ x, xs[k]? = some x := ⟨_, List.getElem?_eq_getElem hlt⟩
      obtain ⟨b, off, rfl, _, hc⟩ := hx.out k x hkx
      have Hkx := Lib.hid hkx
      clear hkx
      by_cases hxn : n = x
      · subst hxn
        go_wp2
        go_ret
        refine ⟨_, rfl, ?_, rfl⟩
        have := List.mem_of_getElem? Hkx.out
        simp [this]
      · go_wp2
        go_round
        case rel =>
          refine ⟨k + 1, by omega, by go_num, ?_⟩
          obtain ⟨hk', e⟩ := List.getElem?_eq_some_iff.1 Hkx.out
          have h := Hall.out
          rw [List.take_succ_eq_append_getElem hk', e]
          rw [List.contains_eq_mem, decide_eq_false_iff_not] at h ⊢
          intro h1
          rcases List.mem_append.1 h1 with h2 | h2
          · exact h h2
          · simp at h2
            exact hxn h2
        case measure => simp [intOf]; omega
    · go_wp2
      go_ret
      have e : k = xs.length := by omega
      subst e
      have := Hall.out
      rw [List.take_length] at this
      exact ⟨_, rfl, by rw [this]; rfl, rfl⟩

set_option maxHeartbeats 1000000 in
theorem containsI_any (A : Option Addr) (cap : Nat) (xs : List Int) (n : Int) (w : World) (hm : xs.length ≤ 9223372036854775807) (hx : Hid (FlatAt w A xs)) :
    Calls Try.prog 57 #[.slice A xs.length cap, .int .i64 n] w fun e w' => e = .returned (.bool (xs.contains n)) ∧ w = w' := by
  go_enter Try.func57, Try.ntmps57
  go_wp2_with fail
  refine (indexI_any A cap xs n _ hm hx).mono ?_
  rintro e w' ⟨i, rfl, hi, rfl⟩
  have Hi := Lib.hid hi
  clear hi
  go_wp2
  go_ret
  exact ⟨ret_bool Hi.out, rfl⟩
end Go.Proofs.Ytlihnipbdckmkaa
