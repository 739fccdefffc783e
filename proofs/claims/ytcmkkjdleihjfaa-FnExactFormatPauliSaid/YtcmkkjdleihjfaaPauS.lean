/- Products of Pauli operators: the plain law: the sum of a table over the bits is a count of bits, modulo 4. -/
import Derived.Test.YtcmkkjdleihjfaaPauli
namespace Go.Proofs.Ytcmkkjdleihjfaa
open Go.RowKit

/-- a bit of a number -/
def bt (n q : Nat) : Nat := n / 2 ^ q % 2
/-- the number of bits of a number below 32 -/
def pop (n : Nat) : Nat := bt n 0 + bt n 1 + bt n 2 + bt n 3 + bt n 4
/-- the power of i in the product of two letters -/
def sgnT (a b : Nat) : Nat := #[0, 0, 0, 0, 0, 0, 3, 1, 0, 1, 0, 3, 0, 3, 1, 0].getD (4 * a + b) 0
def letN (x z q : Nat) : Nat := bt x q + 2 * bt z q
theorem bt_lt (n q : Nat) : bt n q < 2 := Nat.mod_lt _ (by omega)
theorem letN_lt (x z q : Nat) : letN x z q < 4 := by
  have := bt_lt x q
  have := bt_lt z q
  unfold letN
  omega
theorem and_bits : ∀ a b : Fin 32, (bits .and .i64 (a.val : Int) (b.val : Int) = ((a.val &&& b.val : Nat) : Int)) := by decide +kernel
theorem xor_bits : ∀ a b : Fin 32, (bits .xor .i64 (a.val : Int) (b.val : Int) = ((a.val ^^^ b.val : Nat) : Int)) := by decide +kernel
theorem bt_and : ∀ a b : Fin 32, ∀ q : Fin 5, bt (a.val &&& b.val) q.val = bt a.val q.val * bt b.val q.val := by decide +kernel
theorem bt_xor : ∀ a b : Fin 32, ∀ q : Fin 5, bt (a.val ^^^ b.val) q.val = (bt a.val q.val + bt b.val q.val) % 2 := by decide +kernel
theorem and_lt {a b : Nat} (ha : a < 32) : a &&& b < 32 := Nat.lt_of_le_of_lt Nat.and_le_left ha
theorem xor_lt {a b : Nat} (ha : a < 32) (hb : b < 32) : a ^^^ b < 32 := Nat.xor_lt_two_pow (n := 5) ha hb
theorem sgn_bit : ∀ xa za xb zb : Fin 2, ∃ t : Fin 8, sgnT (xa.val + 2 * za.val) (xb.val + 2 * zb.val) + (xa.val + xb.val) % 2 * ((za.val + zb.val) % 2) + 4 = xa.val * za.val + xb.val * zb.val + 2 * (za.val * xb.val) + 4 * t.val := by decide +kernel
/-- the sum of the table over the first k qubits -/
def sumT (ax az bx bz : Nat) : Nat → Nat
  | 0 => 0
  | k + 1 => sumT ax az bx bz k + sgnT (letN ax az k) (letN bx bz k)
theorem sumT_le (ax az bx bz : Nat) : ∀ k, sumT ax az bx bz k ≤ 3 * k
  | 0 => Nat.le_refl _
  | k + 1 => by
    have h := sumT_le ax az bx bz k
    have h2 : sgnT (letN ax az k) (letN bx bz k) ≤ 3 := by
      have key : ∀ a b : Fin 4, sgnT a.val b.val ≤ 3 := by decide
      exact key ⟨_, letN_lt ax az k⟩ ⟨_, letN_lt bx bz k⟩
    show sumT ax az bx bz k + _ ≤ _
    omega
theorem sgn_at {ax az bx bz : Nat} (h1 : ax < 32) (h2 : az < 32) (h3 : bx < 32) (h4 : bz < 32) (q : Nat) (hq : q < 5) :
    ∃ t : Nat, sgnT (letN ax az q) (letN bx bz q) + bt ((ax ^^^ bx) &&& (az ^^^ bz)) q + 4 = bt (ax &&& az) q + bt (bx &&& bz) q + 2 * bt (az &&& bx) q + 4 * t := by
  have e1 := bt_and ⟨ax, h1⟩ ⟨az, h2⟩ ⟨q, hq⟩
  have e2 := bt_and ⟨bx, h3⟩ ⟨bz, h4⟩ ⟨q, hq⟩
  have e3 := bt_and ⟨az, h2⟩ ⟨bx, h3⟩ ⟨q, hq⟩
  have e4 := bt_and ⟨ax ^^^ bx, xor_lt h1 h3⟩ ⟨az ^^^ bz, xor_lt h2 h4⟩ ⟨q, hq⟩
  have e5 := bt_xor ⟨ax, h1⟩ ⟨bx, h3⟩ ⟨q, hq⟩
  have e6 := bt_xor ⟨az, h2⟩ ⟨bz, h4⟩ ⟨q, hq⟩
  simp only at e1 e2 e3 e4 e5 e6
  obtain ⟨t, ht⟩ := sgn_bit ⟨_, bt_lt ax q⟩ ⟨_, bt_lt az q⟩ ⟨_, bt_lt bx q⟩ ⟨_, bt_lt bz q⟩
  refine ⟨t.val, ?_⟩
  rw [e4, e5, e6, e1, e2, e3]
  exact ht
theorem sum_pop {ax az bx bz : Nat} (h1 : ax < 32) (h2 : az < 32) (h3 : bx < 32) (h4 : bz < 32) :
    ∃ t : Nat, sumT ax az bx bz 5 + pop ((ax ^^^ bx) &&& (az ^^^ bz)) + 20 = pop (ax &&& az) + pop (bx &&& bz) + 2 * pop (az &&& bx) + 4 * t := by
  obtain ⟨t0, e0⟩ := sgn_at h1 h2 h3 h4 0 (by omega)
  obtain ⟨t1, e1⟩ := sgn_at h1 h2 h3 h4 1 (by omega)
  obtain ⟨t2, e2⟩ := sgn_at h1 h2 h3 h4 2 (by omega)
  obtain ⟨t3, e3⟩ := sgn_at h1 h2 h3 h4 3 (by omega)
  obtain ⟨t4, e4⟩ := sgn_at h1 h2 h3 h4 4 (by omega)
  refine ⟨t0 + t1 + t2 + t3 + t4, ?_⟩
  simp only [sumT, pop, Nat.zero_add]
  omega
theorem pop_le (n : Nat) : pop n ≤ 5 := by
  have := bt_lt n 0
  have := bt_lt n 1
  have := bt_lt n 2
  have := bt_lt n 3
  have := bt_lt n 4
  unfold pop
  omega
/-- the phase of a product -/
def phM (pa pb ax az bx bz : Nat) : Nat := (pa + pb + sumT ax az bx bz 5) % 4
theorem phM_impl {pa pb ax az bx bz : Nat} (h1 : ax < 32) (h2 : az < 32) (h3 : bx < 32) (h4 : bz < 32) :
    ((((pa : Int) + (pb : Int) + (pop (ax &&& az) : Int) + (pop (bx &&& bz) : Int) + 2 * (pop (az &&& bx) : Int) - (pop ((ax ^^^ bx) &&& (az ^^^ bz)) : Int)).tmod 4 + 4).tmod 4) = (phM pa pb ax az bx bz : Int) := by
  obtain ⟨t, ht⟩ := sum_pop h1 h2 h3 h4
  have hp := pop_le ((ax ^^^ bx) &&& (az ^^^ bz))
  unfold phM
  generalize sumT ax az bx bz 5 = S at *
  generalize pop ((ax ^^^ bx) &&& (az ^^^ bz)) = P at *
  generalize pop (ax &&& az) = Q at *
  generalize pop (bx &&& bz) = R at *
  generalize pop (az &&& bx) = U at *
  generalize hE : (pa : Int) + (pb : Int) + (Q : Int) + (R : Int) + 2 * (U : Int) - (P : Int) = E
  have h5 : E.tmod 4 = E % 4 ∨ E.tmod 4 = E % 4 - 4 := by
    rw [Int.tmod_eq_emod]
    split
    · left; omega
    · right; show _ - ((4 : Int).natAbs : Int) = _; rfl
  have h6 : 0 ≤ E.tmod 4 + 4 := by omega
  rw [Int.tmod_eq_emod_of_nonneg h6]
  omega
/-- do two products agree? -/
def comB (ax az bx bz : Nat) : Bool := (pop (ax &&& bz) + pop (az &&& bx)) % 2 == 0
theorem com_ph {pa pb ax az bx bz : Nat} (h1 : ax < 32) (h2 : az < 32) (h3 : bx < 32) (h4 : bz < 32) : (phM pa pb ax az bx bz == phM pb pa bx bz ax az) = comB ax az bx bz := by
  obtain ⟨t, ht⟩ := sum_pop h1 h2 h3 h4
  obtain ⟨u, hu⟩ := sum_pop h3 h4 h1 h2
  rw [Nat.xor_comm bx ax, Nat.xor_comm bz az] at hu
  rw [show bz &&& ax = ax &&& bz from Nat.and_comm _ _] at hu
  unfold phM comB
  generalize sumT ax az bx bz 5 = S at *
  generalize sumT bx bz ax az 5 = S' at *
  generalize pop ((ax ^^^ bx) &&& (az ^^^ bz)) = P at *
  generalize pop (ax &&& az) = Q at *
  generalize pop (bx &&& bz) = R at *
  generalize pop (az &&& bx) = U at *
  generalize pop (ax &&& bz) = V at *
  rw [Bool.eq_iff_iff]
  simp only [beq_iff_eq]
  omega
end Go.Proofs.Ytcmkkjdleihjfaa
