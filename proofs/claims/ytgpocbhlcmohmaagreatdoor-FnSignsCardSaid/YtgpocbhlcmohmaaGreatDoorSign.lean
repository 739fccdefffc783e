/- Signs of u + v sqrt(2): RealSign, of the program and of the reference. -/
import Derived.Test.YtgpocbhlcmohmaaGreatDoorAll
namespace Go.Proofs.YtgpocbhlcmohmaaGreatDoor
open Go.RowKit

theorem Ar.mul_bd {x y : Int} (hx : -1000000000 ≤ x ∧ x ≤ 1000000000) (hy : -1000000000 ≤ y ∧ y ≤ 1000000000) : -1000000000000000000 ≤ x * y ∧ x * y ≤ 1000000000000000000 := by
  obtain ⟨h1, h2⟩ := hx
  obtain ⟨h3, h4⟩ := hy
  have ha : x.natAbs ≤ 1000000000 := by omega
  have hb : y.natAbs ≤ 1000000000 := by omega
  have hm : (x * y).natAbs ≤ 1000000000 * 1000000000 := by rw [Int.natAbs_mul]; exact Nat.mul_le_mul ha hb
  omega
theorem Ar.norm_bd {u v : Int} (hu : -1000000000 ≤ u ∧ u ≤ 1000000000) (hv : -1000000000 ≤ v ∧ v ≤ 1000000000) :
    wrap64 (wrap64 (u * u) - wrap64 (wrap64 (2 * v) * v)) = u * u - 2 * v * v ∧ wrap64 (wrap64 (u * u) - wrap64 (2 * v * v)) = u * u - 2 * v * v := by
  have h1 := Ar.mul_bd hu hu
  have h2 := Ar.mul_bd hv hv
  have e : (2 * v) * v = 2 * (v * v) := Int.mul_assoc _ _ _
  rw [IntWalk.wrap64_in (2 * v) (by omega), e]
  simp (disch := omega) only [IntWalk.wrap64_in]
  exact ⟨trivial, trivial⟩

def sgn (n : Int) : Int := if n < 0 then -1 else if 0 < n then 1 else 0
/-- the sign of u + v sqrt(2) -/
def sgn2 (u v : Int) : Int := if 0 ≤ sgn u * sgn v then sgn (u + v) else sgn u * sgn (u * u - 2 * v * v)
def signOk (u v : Int) : Bool := coefB u && coefB v
def signRes (u v : Int) : Value := .tuple #[.int .i64 (rI (signOk u v) (sgn2 u v)), .bool (signOk u v)]
theorem ret_ib {a b : Int} {x : Bool} (h : a = b) : Ending.returned (.tuple #[.int .i64 a, .bool x]) = .returned (.tuple #[.int .i64 b, .bool x]) := by rw [h]
theorem ret_int {a b : Int} (h : a = b) : Ending.returned (.int .i64 a) = .returned (.int .i64 b) := by rw [h]

set_option maxHeartbeats 400000 in
theorem sign_any (n : Int) (w : World) : Calls Tryz.prog 15 #[.int .i64 n] w fun e w' => e = .returned (.int .i64 (sgn n)) ∧ w = w' := by
  go_enter Tryz.func15, Tryz.ntmps15
  go_wp2
  all_goals
    go_ret
    exact ⟨ret_int (by simp only [sgn]; (repeat' split) <;> omega), rfl⟩

theorem sgn_cases (n : Int) : (n < 0 ∧ sgn n = -1) ∨ (n = 0 ∧ sgn n = 0) ∨ (0 < n ∧ sgn n = 1) := by
  unfold sgn
  (repeat' split) <;> omega

set_option maxHeartbeats 1000000 in
theorem l2Sign_any (u v : Int) (w : World) (hu : coefB u = true) (hv : coefB v = true) :
    Calls Tryz.prog 17 #[.int .i64 u, .int .i64 v] w fun e w' => e = .returned (.int .i64 (sgn2 u v)) ∧ w = w' := by
  obtain ⟨hu1, hu2⟩ := coefB_iff.1 hu
  obtain ⟨hv1, hv2⟩ := coefB_iff.1 hv
  obtain ⟨hn1, hn2⟩ := Ar.norm_bd ⟨hu1, hu2⟩ ⟨hv1, hv2⟩
  have Hs : Hid (∀ d, u * u - 2 * v * v = d → sgn2 u v = if 0 ≤ sgn u * sgn v then sgn (u + v) else sgn u * sgn d) := fun d h => by subst h; rfl
  have Hz : Hid (u = 0 → v = 0 → u * u - 2 * v * v = 0) := by rintro rfl rfl; rfl
  clear hu hv
  generalize u * u - 2 * v * v = d at hn1 hn2 Hs Hz
  have Hd := Lib.hid (Hs.out d rfl)
  clear Hs
  go_enter Tryz.func17, Tryz.ntmps17
  go_wp2
  all_goals
    go_ret
    refine ⟨ret_int ?_, rfl⟩
    rw [Hd.out]
    have hz := Hz.out
    rcases sgn_cases u with ⟨_, e1⟩ | ⟨_, e1⟩ | ⟨_, e1⟩ <;> rcases sgn_cases v with ⟨_, e2⟩ | ⟨_, e2⟩ | ⟨_, e2⟩ <;> rcases sgn_cases d with ⟨_, e3⟩ | ⟨_, e3⟩ | ⟨_, e3⟩ <;> rcases sgn_cases (u + v) with ⟨_, e4⟩ | ⟨_, e4⟩ | ⟨_, e4⟩ <;> rw [e1, e2, e3, e4] <;> first | omega | rfl | (exfalso; simp_all; done) | (exfalso; simp_all; omega)


set_option maxHeartbeats 1000000 in
theorem specRealSign_any (u v : Int) (w : World) :
    Calls Tryz.prog 7 #[.int .i64 u, .int .i64 v] w fun e w' => e = .returned (signRes u v) ∧ Below w.heap.size w w' := by
  rcases h : signOk u v with _ | _
  · have h' : (inB u (-1000000000) 1000000000 && inB v (-1000000000) 1000000000) = false := h
    go_enter Tryz.func7, Tryz.ntmps7
    go_wp2_with fail
    refine (l1All2 _ u v _ _ _ (intsAt2 (by go_simp) (by go_simp))).mono ?_
    rintro e w' ⟨rfl, rfl⟩
    go_wp2
    go_ret2
    refine ⟨by simp [signRes, h, rI_f], ?_⟩
    go_grown
  · have h' : (inB u (-1000000000) 1000000000 && inB v (-1000000000) 1000000000) = true := h
    have h0 : (coefB u && coefB v) = true := h
    have H0 := Lib.hid (And.intro (by simpa using (Bool.and_eq_true _ _ ▸ h0).1 : coefB u = true) (by simpa using (Bool.and_eq_true _ _ ▸ h0).2 : coefB v = true))
    clear h0
    go_enter Tryz.func7, Tryz.ntmps7
    go_wp2_with fail
    refine (l1All2 _ u v _ _ _ (intsAt2 (by go_simp) (by go_simp))).mono ?_
    rintro e w' ⟨rfl, rfl⟩
    go_wp2_with fail
    refine (l2Sign_any _ _ _ H0.out.1 H0.out.2).mono ?_
    rintro e w' ⟨rfl, rfl⟩
    go_wp2
    go_ret2
    refine ⟨by simp [signRes, h, rI_t], ?_⟩
    go_grown

set_option maxHeartbeats 1000000 in
theorem implRealSign_any (u v : Int) (w : World) :
    Calls Tryz.prog 6 #[.int .i64 u, .int .i64 v] w fun e w' => e = .returned (signRes u v) ∧ w = w' := by
  rcases hu : coefB u with _ | _
  · go_enter Tryz.func6, Tryz.ntmps6
    go_wp2_with fail
    refine (isCoef_any _ _).mono ?_
    rintro e w' ⟨rfl, rfl⟩
    go_wp2
    go_ret2
    exact ⟨by simp [signRes, signOk, hu, rI_f], rfl⟩
  rcases hv : coefB v with _ | _
  · go_enter Tryz.func6, Tryz.ntmps6
    go_wp2_with fail
    refine (isCoef_any _ _).mono ?_
    rintro e w' ⟨rfl, rfl⟩
    go_wp2_with fail
    refine (isCoef_any _ _).mono ?_
    rintro e w' ⟨rfl, rfl⟩
    go_wp2
    go_ret2
    exact ⟨by simp [signRes, signOk, hv, rI_f], rfl⟩
  obtain ⟨hu1, hu2⟩ := coefB_iff.1 hu
  obtain ⟨hv1, hv2⟩ := coefB_iff.1 hv
  obtain ⟨hn1, hn2⟩ := Ar.norm_bd ⟨hu1, hu2⟩ ⟨hv1, hv2⟩
  have Hs : Hid (∀ d, u * u - 2 * v * v = d → signRes u v = .tuple #[.int .i64 (if 0 ≤ sgn u * sgn v then sgn (u + v) else sgn u * sgn d), .bool true]) := fun d h => by subst h; simp [signRes, signOk, hu, hv, rI_t, sgn2]
  generalize u * u - 2 * v * v = d at hn1 hn2 Hs
  have Hd := Lib.hid (Hs.out d rfl)
  clear Hs
  have Hp : Hid (-1 ≤ sgn u ∧ sgn u ≤ 1 ∧ -1 ≤ sgn v ∧ sgn v ≤ 1 ∧ -1 ≤ sgn d ∧ sgn d ≤ 1) := by
    refine ⟨?_, ?_, ?_, ?_, ?_, ?_⟩ <;> (unfold sgn; (repeat' split) <;> omega)
  have hw1 : wrap64 (sgn u * sgn v) = sgn u * sgn v := IntWalk.wrap64_in _ (by
    obtain ⟨a, b, c, d, _, _⟩ := Hp.out
    rcases sgn_cases u with ⟨_, e1⟩ | ⟨_, e1⟩ | ⟨_, e1⟩ <;> rw [e1] <;> omega)
  have hw2 : wrap64 (sgn u * sgn d) = sgn u * sgn d := IntWalk.wrap64_in _ (by
    obtain ⟨a, b, c, d, _, _⟩ := Hp.out
    rcases sgn_cases u with ⟨_, e1⟩ | ⟨_, e1⟩ | ⟨_, e1⟩ <;> rw [e1] <;> omega)
  by_cases hs : 0 ≤ sgn u * sgn v
  · rw [if_pos hs] at Hd
    go_enter Tryz.func6, Tryz.ntmps6
    go_wp2_with fail
    refine (isCoef_any _ _).mono ?_
    rintro e w' ⟨rfl, rfl⟩
    go_wp2_with fail
    refine (isCoef_any _ _).mono ?_
    rintro e w' ⟨rfl, rfl⟩
    go_wp2_with fail
    refine (sign_any _ _).mono ?_
    rintro e w' ⟨rfl, rfl⟩
    go_wp2_with fail
    refine (sign_any _ _).mono ?_
    rintro e w' ⟨rfl, rfl⟩
    go_wp2_with fail
    refine (sign_any _ _).mono ?_
    rintro e w' ⟨rfl, rfl⟩
    go_wp2
    go_ret2
    exact ⟨by rw [Hd.out]; rfl, rfl⟩
  · rw [if_neg hs] at Hd
    go_enter Tryz.func6, Tryz.ntmps6
    go_wp2_with fail
    refine (isCoef_any _ _).mono ?_
    rintro e w' ⟨rfl, rfl⟩
    go_wp2_with fail
    refine (isCoef_any _ _).mono ?_
    rintro e w' ⟨rfl, rfl⟩
    go_wp2_with fail
    refine (sign_any _ _).mono ?_
    rintro e w' ⟨rfl, rfl⟩
    go_wp2_with fail
    refine (sign_any _ _).mono ?_
    rintro e w' ⟨rfl, rfl⟩
    go_wp2_with fail
    refine (sign_any _ _).mono ?_
    rintro e w' ⟨rfl, rfl⟩
    go_wp2_with fail
    refine (sign_any _ _).mono ?_
    rintro e w' ⟨rfl, rfl⟩
    go_wp2
    go_ret2
    exact ⟨(ret_ib hw2).trans (by rw [Hd.out]), rfl⟩
end Go.Proofs.YtgpocbhlcmohmaaGreatDoor
