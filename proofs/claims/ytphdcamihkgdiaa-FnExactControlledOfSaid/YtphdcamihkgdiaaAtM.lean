/- The cells of a matrix; the closures of the program's matrix functions. -/
import Derived.Test.YtphdcamihkgdiaaMatOf
import Derived.Test.YtphdcamihkgdiaaMulD
import Derived.Test.YtphdcamihkgdiaaLoc
namespace Go.Proofs.Ytphdcamihkgdiaa
open Go.RowKit

set_option maxHeartbeats 2000000 in
theorem atM_any (r : Int) (C i j : Nat) (A : Option Addr) (cap : Nat) (xs : List D5) (x : D5) (w : World) (hC : C ≤ 32) (hi : i ≤ 32) (hn : xs.length ≤ 1048576) (hk : Hid (xs[i * C + j]? = some x)) (hx : Hid (FlatAt w A (flatD xs))) :
    Calls Try.prog 85 #[mv r C A xs.length cap, .int .i64 (i : Int), .int .i64 (j : Int)] w fun e w' => e = .returned (dvD x) ∧ Below w.heap.size w w' := by
  have hm1 : (0 : Int) ≤ (i : Int) * (C : Int) := Int.mul_nonneg (by omega) (by omega)
  have hm2 : (i : Int) * (C : Int) ≤ 1024 := by
    have h := Nat.mul_le_mul hi hC
    have e : ((i * C : Nat) : Int) = (i : Int) * (C : Int) := Int.natCast_mul i C
    omega
  obtain ⟨k, hkd⟩ : ∃ k : Nat, k = i * C + j := ⟨_, rfl⟩
  have hki : (i : Int) * (C : Int) + (j : Int) = (k : Int) := by rw [hkd, Int.natCast_add, Int.natCast_mul]
  have hkx : xs[k]? = some x := by rw [hkd]; exact hk.out
  have hlt : k < xs.length := (List.getElem?_eq_some_iff.1 hkx).1
  have hlti : (k : Int) < (xs.length : Int) := by omega
  obtain ⟨b, off, rfl, hbl, hc⟩ := hx.out.five hkx
  obtain ⟨c0, c1, c2, c3, c4⟩ := hc
  clear hkd hkx hlt
  go_enter Try.func85, Try.ntmps85
  go_wp2
  refine bodyPost_ret (by simp [results, Try.results85, go_sem]) rfl ⟨rfl, ?_⟩
  go_grown

def ijD (i j : Nat) : D5 := if i = j then ((1, 0, 0, 0), 0) else zeroD
set_option maxHeartbeats 1000000 in
theorem whole_any (n : Int) (w : World) :
    Calls Try.prog 86 #[.int .i64 n] w fun e w' => e = .returned (dv n 0 0 0 0) ∧ Below w.heap.size w w' := by
  go_enter Try.func86, Try.ntmps86
  go_wp2
  refine bodyPost_ret (by simp [results, Try.results86, go_sem]) rfl ⟨rfl, ?_⟩
  go_grown

/-- a matrix in new memory, handed on by a call: the pieces -/
theorem MRes.form {e : Ending} {w w' : World} {ok : Bool} {R C : Int} {xs : List D5} (h : MRes e w w' ok R C xs) :
    ∃ (A : Option Addr) (cap : Nat) (R' C' : Int) (ys : List D5), e = .returned (.tuple #[mv R' C' A ys.length cap, .bool ok]) ∧ R' = rI ok R ∧ C' = rI ok C ∧ ys = (if ok then xs else []) ∧ FlatIn w' A (flatD ys) w.heap.size w'.heap.size ∧ Below w.heap.size w w' :=
  let ⟨A, cap, h1, h2, h3⟩ := h
  ⟨A, cap, _, _, _, h1, rfl, rfl, rfl, h2, h3⟩
theorem MRes.mk {w w' : World} {ok : Bool} {R C : Int} {xs : List D5} {A : Option Addr} {cap : Nat} {R' C' : Int} {ys : List D5} (h1 : R' = rI ok R) (h2 : C' = rI ok C) (h3 : ys = (if ok then xs else [])) (hf : FlatIn w' A (flatD ys) w.heap.size w'.heap.size) (hb : Below w.heap.size w w') :
    MRes (.returned (.tuple #[mv R' C' A ys.length cap, .bool ok])) w w' ok R C xs := by
  subst h1 h2 h3
  exact ⟨A, cap, rfl, hf, hb⟩

theorem dims {r c : Int} {xs : List D5} (h : mOk r c xs = true) : ∃ R C : Nat, r = (R : Int) ∧ c = (C : Int) ∧ 1 ≤ R ∧ R ≤ 32 ∧ 1 ≤ C ∧ C ≤ 32 ∧ dimB r = true ∧ dimB c = true ∧ xs.length = R * C ∧ xs.all dOkD = true := by
  simp only [mOk, Bool.and_eq_true, decide_eq_true_eq] at h
  obtain ⟨⟨⟨h1, h2⟩, h3⟩, h4⟩ := h
  have d1 := dimB_iff.1 h1
  have d2 := dimB_iff.1 h2
  obtain ⟨R, rfl⟩ := Int.eq_ofNat_of_zero_le (a := r) (by omega)
  obtain ⟨C, rfl⟩ := Int.eq_ofNat_of_zero_le (a := c) (by omega)
  exact ⟨R, C, rfl, rfl, by omega, by omega, by omega, by omega, h1, h2, by rw [← Int.natCast_mul] at h3; omega, h4⟩
def atD (C : Nat) (xs : List D5) (i j : Nat) : D5 := xs.getD (i * C + j) zeroD
theorem idx_lt {R C i j n : Nat} (hn : n = R * C) (hi : i < R) (hj : j < C) : i * C + j < n := by
  rw [hn]
  calc i * C + j < i * C + C := by omega
    _ = (i + 1) * C := (Nat.succ_mul i C).symm
    _ ≤ R * C := Nat.mul_le_mul_right C hi
theorem atD_some {R C i j : Nat} {xs : List D5} (hn : xs.length = R * C) (hi : i < R) (hj : j < C) : xs[i * C + j]? = some (atD C xs i j) := by
  have h := idx_lt hn hi hj
  unfold atD
  rw [List.getD_eq_getElem?_getD, List.getElem?_eq_getElem h]
  rfl
theorem all_at {R C i j : Nat} {xs : List D5} (hn : xs.length = R * C) (hi : i < R) (hj : j < C) (ha : xs.all dOkD = true) : dOkD (atD C xs i j) = true :=
  List.all_eq_true.1 ha _ (List.mem_of_getElem? (atD_some hn hi hj))
theorem atD_any (R C i j : Nat) (A : Option Addr) (cap : Nat) (xs : List D5) (w : World) (hR : R ≤ 32) (hC : C ≤ 32) (hl : xs.length = R * C) (hi : i < R) (hj : j < C) (hx : Hid (FlatAt w A (flatD xs))) :
    Calls Try.prog 85 #[mv (R : Int) (C : Int) A xs.length cap, .int .i64 (i : Int), .int .i64 (j : Int)] w fun e w' => e = .returned (dvD (atD C xs i j)) ∧ Below w.heap.size w w' :=
  atM_any R C i j A cap xs (atD C xs i j) w hC (by omega) (by rw [hl]; have := Nat.mul_le_mul hR hC; omega) (atD_some hl hi hj) hx
end Go.Proofs.Ytphdcamihkgdiaa
