/- spec.l1All over a slice that reads as a list of ints; spec.l1Good. -/
import Derived.Test.YtlihnipbdckmkaaNum
namespace Go.Proofs.Ytlihnipbdckmkaa
open Go.RowKit

/-- all numbers of a list lie within bounds -/
def allIn (xs : List Int) (lo hi : Int) : Bool := xs.all fun n => inB n lo hi

theorem allIn_step {xs : List Int} {lo hi : Int} {k : Nat} {x : Int} (h : xs[k]? = some x) : allIn (xs.take (k + 1)) lo hi = (allIn (xs.take k) lo hi && inB x lo hi) := by
  obtain ⟨hk, rfl⟩ := List.getElem?_eq_some_iff.1 h
  unfold allIn
  rw [List.take_succ_eq_append_getElem hk, List.all_append]
  simp
theorem allIn_bad {xs : List Int} {lo hi : Int} {k : Nat} {x : Int} (h : xs[k]? = some x) (hb : inB x lo hi = false) : allIn xs lo hi = false := by
  obtain ⟨hk, rfl⟩ := List.getElem?_eq_some_iff.1 h
  unfold allIn
  rw [List.all_eq_false]
  exact ⟨xs[k], List.getElem_mem hk, by simpa using hb⟩

/-- a slice's address and length, at which a list of ints stands -/
def IntsAt (w : World) (A : Option Addr) (xs : List Int) : Prop :=
  ∀ k, k < xs.length → ∃ a x, A = some a ∧ xs[k]? = some x ∧ w.cell? (a.add k) = some (.int .i64 x)

set_option maxHeartbeats 400000 in
theorem l1All_any (A : Option Addr) (cap : Nat) (xs : List Int) (lo hi : Int) (w : World) (hm : xs.length ≤ 9223372036854775807) (hx : Hid (IntsAt w A xs)) :
    Calls Try.prog 59 #[.slice A xs.length cap, .int .i64 lo, .int .i64 hi] w fun e w' => e = .returned (.bool (allIn xs lo hi)) ∧ w = w' := by
  go_enter Try.func59, Try.ntmps59
  go_wp2
  go_loop [11] (fun i => ∃ k : Nat, k ≤ xs.length ∧ i = .int .i64 k ∧ allIn (xs.take k) lo hi = true) (fun i => xs.length - (intOf i).toNat)
  case atStart => exact ⟨0, Nat.zero_le _, rfl, rfl⟩
  case round =>
    obtain ⟨k, hk, rfl, hall⟩ := hrel
    have Hall := Lib.hid hall
    clear hall
    by_cases hlt : k < xs.length
    · obtain ⟨a, x, rfl, hkx, hc⟩ := hx.out k hlt
      have Hst := Lib.hid (allIn_step (lo := lo) (hi := hi) hkx)
      have Hbad := Lib.hid (allIn_bad (lo := lo) (hi := hi) hkx)
      clear hkx
      rcases hin : inB x lo hi with _ | _
      · go_wp2_with (go_at_call 24; refine (l1In_any _ _ _ _).mono ?_; rintro e w' ⟨rfl, rfl⟩)
        go_ret
        exact ⟨ret_bool (Hbad.out hin).symm, rfl⟩
      · go_wp2_with (go_at_call 24; refine (l1In_any _ _ _ _).mono ?_; rintro e w' ⟨rfl, rfl⟩)
        go_round
        case rel => exact ⟨k + 1, by omega, by go_num, by rw [Hst.out, Hall.out, hin]; rfl⟩
        case measure => simp [intOf]; omega
    · go_wp2
      go_ret
      have e : k = xs.length := by omega
      subst e
      have := Hall.out
      rw [List.take_length] at this
      exact ⟨ret_bool this.symm, rfl⟩

/-- cells that read as a list of ints -/
theorem intsAt4 {w : World} {g : Nat} {a b c d : Int} (h0 : w.cell? ⟨g, 0, none⟩ = some (.int .i64 a)) (h1 : w.cell? ⟨g, 1, none⟩ = some (.int .i64 b)) (h2 : w.cell? ⟨g, 2, none⟩ = some (.int .i64 c)) (h3 : w.cell? ⟨g, 3, none⟩ = some (.int .i64 d)) :
    Hid (IntsAt w (some ⟨g, 0, none⟩) [a, b, c, d]) := by
  intro k hk
  simp only [List.length_cons, List.length_nil] at hk
  match k, hk with
  | 0, _ => exact ⟨_, a, rfl, rfl, h0⟩
  | 1, _ => exact ⟨_, b, rfl, rfl, h1⟩
  | 2, _ => exact ⟨_, c, rfl, rfl, h2⟩
  | 3, _ => exact ⟨_, d, rfl, rfl, h3⟩
theorem intsAt2 {w : World} {g : Nat} {a b : Int} (h0 : w.cell? ⟨g, 0, none⟩ = some (.int .i64 a)) (h1 : w.cell? ⟨g, 1, none⟩ = some (.int .i64 b)) :
    Hid (IntsAt w (some ⟨g, 0, none⟩) [a, b]) := by
  intro k hk
  simp only [List.length_cons, List.length_nil] at hk
  match k, hk with
  | 0, _ => exact ⟨_, a, rfl, rfl, h0⟩
  | 1, _ => exact ⟨_, b, rfl, rfl, h1⟩

theorem l1All4 (g : Nat) (a b c d lo hi : Int) (w : World) (h : Hid (IntsAt w (some ⟨g, 0, none⟩) [a, b, c, d])) :
    Calls Try.prog 59 #[.slice (some ⟨g, 0, none⟩) 4 4, .int .i64 lo, .int .i64 hi] w fun e w' => e = .returned (.bool (inB a lo hi && inB b lo hi && inB c lo hi && inB d lo hi)) ∧ w = w' :=
  (l1All_any _ 4 [a, b, c, d] lo hi w (by simp) h).mono fun _ _ ⟨h1, h2⟩ => ⟨by rw [h1]; simp [allIn, Bool.and_assoc], h2⟩
theorem l1All2 (g : Nat) (a b lo hi : Int) (w : World) (h : Hid (IntsAt w (some ⟨g, 0, none⟩) [a, b])) :
    Calls Try.prog 59 #[.slice (some ⟨g, 0, none⟩) 2 2, .int .i64 lo, .int .i64 hi] w fun e w' => e = .returned (.bool (inB a lo hi && inB b lo hi)) ∧ w = w' :=
  (l1All_any _ 2 [a, b] lo hi w (by simp) h).mono fun _ _ ⟨h1, h2⟩ => ⟨by rw [h1]; simp [allIn], h2⟩

end Go.Proofs.Ytlihnipbdckmkaa
