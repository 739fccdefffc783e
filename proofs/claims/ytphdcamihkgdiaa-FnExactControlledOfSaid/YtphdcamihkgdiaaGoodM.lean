/- Validity of matrices: the loops. -/
import Derived.Test.YtphdcamihkgdiaaValM
namespace Go.Proofs.Ytphdcamihkgdiaa
open Go.RowKit

def mOk (r c : Int) (xs : List D5) : Bool := dimB r && dimB c && decide ((xs.length : Int) = r * c) && xs.all dOkD
theorem allD_step {xs : List D5} {k : Nat} {x : D5} (h : xs[k]? = some x) : (xs.take (k + 1)).all dOkD = ((xs.take k).all dOkD && dOkD x) := by
  obtain ⟨hk, rfl⟩ := List.getElem?_eq_some_iff.1 h
  rw [List.take_succ_eq_append_getElem hk, List.all_append]
  simp
theorem allD_bad {xs : List D5} {k : Nat} {x : D5} (h : xs[k]? = some x) (hb : dOkD x = false) : xs.all dOkD = false := by
  obtain ⟨hk, rfl⟩ := List.getElem?_eq_some_iff.1 h
  rw [List.all_eq_false]
  exact ⟨xs[k], List.getElem_mem hk, by simpa using hb⟩
theorem dim_mul {r c : Int} (hr : dimB r = true) (hc : dimB c = true) : 1 ≤ r * c ∧ r * c ≤ 1024 := by
  have h1 := dimB_iff.1 hr
  have h2 := dimB_iff.1 hc
  rcases h1 with rfl | rfl | rfl | rfl | rfl | rfl <;> rcases h2 with rfl | rfl | rfl | rfl | rfl | rfl <;> decide
theorem l2GoodD_any (x : D5) (w : World) : Calls Try.prog 112 #[dvD x] w fun r w' => r = .returned (.bool (dOkD x)) ∧ Below w.heap.size w w' := l2Good_any _ _ _ _ _ _
theorem implValidD_any (x : D5) (w : World) : Calls Try.prog 118 #[dvD x] w fun r w' => r = .returned (.bool (dOkD x)) ∧ Below w.heap.size w w' := implValidDyadic_any _ _ _ _ _ _

set_option maxHeartbeats 2000000 in
theorem l3Good_any (r c : Int) (A : Option Addr) (cap : Nat) (xs : List D5) (w : World) (hx : Hid (FlatAt w A (flatD xs))) :
    Calls Try.prog 79 #[mv r c A xs.length cap] w fun e w' => e = .returned (.bool (mOk r c xs)) ∧ Below w.heap.size w w' := by
  rcases hr : dimB r with _ | _
  · go_enter Try.func79, Try.ntmps79
    go_wp2_with fail
    refine (l3Dim_any _ _).mono ?_
    rintro e w1 ⟨rfl, b1⟩
    obtain ⟨b1c, b1f⟩ := bcell b1
    have z1 := b1.size
    try simp only [World.size_alloc] at z1
    have B1 : Below w.heap.size w w1 := Below.chain (Below.refl _ _) (by go_grown) b1 (by go_size)
    have y10 : w.heap.size < w1.heap.size := by omega
    go_wp2
    go_ret
    refine ⟨ret_bool (by simp [mOk, hr]), ?_⟩
    go_grown
  rcases hc : dimB c with _ | _
  · go_enter Try.func79, Try.ntmps79
    go_wp2_with fail
    refine (l3Dim_any _ _).mono ?_
    rintro e w1 ⟨rfl, b1⟩
    obtain ⟨b1c, b1f⟩ := bcell b1
    have z1 := b1.size
    try simp only [World.size_alloc] at z1
    have B1 : Below w.heap.size w w1 := Below.chain (Below.refl _ _) (by go_grown) b1 (by go_size)
    have y10 : w.heap.size < w1.heap.size := by omega
    go_wp2_with fail
    refine (l3Dim_any _ _).mono ?_
    rintro e w2 ⟨rfl, b2⟩
    have z2 := b2.size
    try simp only [World.size_alloc] at z2
    have C2 := Below.chain b1 (by go_grown) b2 (by go_size)
    have B2 : Below w.heap.size w w2 := Below.chain B1 (by go_grown) b2 (by go_size)
    obtain ⟨b2c, b2f⟩ := bcell b2
    obtain ⟨C2c, C2f⟩ := bcellB C2
    have y20 : w.heap.size < w2.heap.size := by omega
    try (have v21 : w1.heap.size < w2.heap.size := by omega)
    go_wp2
    go_ret
    refine ⟨ret_bool (by simp [mOk, hc]), ?_⟩
    go_grown
  obtain ⟨hb1, hb2⟩ := dim_mul hr hc
  by_cases hl : (xs.length : Int) = r * c
  · have Hl : Hid (mOk r c xs = xs.all dOkD) := by show mOk r c xs = _; simp [mOk, hr, hc, hl]
    rw [Hl.out]
    clear Hl
    go_enter Try.func79, Try.ntmps79
    go_wp2_with fail
    refine (l3Dim_any _ _).mono ?_
    rintro e w1 ⟨rfl, b1⟩
    obtain ⟨b1c, b1f⟩ := bcell b1
    have z1 := b1.size
    try simp only [World.size_alloc] at z1
    have B1 : Below w.heap.size w w1 := Below.chain (Below.refl _ _) (by go_grown) b1 (by go_size)
    have y10 : w.heap.size < w1.heap.size := by omega
    go_wp2_with fail
    refine (l3Dim_any _ _).mono ?_
    rintro e w2 ⟨rfl, b2⟩
    have z2 := b2.size
    try simp only [World.size_alloc] at z2
    have C2 := Below.chain b1 (by go_grown) b2 (by go_size)
    have B2 : Below w.heap.size w w2 := Below.chain B1 (by go_grown) b2 (by go_size)
    obtain ⟨b2c, b2f⟩ := bcell b2
    obtain ⟨C2c, C2f⟩ := bcellB C2
    have y20 : w.heap.size < w2.heap.size := by omega
    try (have v21 : w1.heap.size < w2.heap.size := by omega)
    go_wp2_with fail
    go_loopw [29] (fun i wr => ∃ k : Nat, i = .int .i64 k ∧ k ≤ xs.length ∧ (xs.take k).all dOkD = true ∧ Below w.heap.size w wr) (fun i _ => xs.length - (intOf i).toNat)
    case atStart => exact ⟨0, rfl, Nat.zero_le _, rfl, B2⟩
    case round =>
      obtain ⟨k, rfl, hk, hall, hb⟩ := hrel
      have zb := hb.size
      have Hall := Lib.hid hall
      clear hall
      by_cases hlt : k < xs.length
      · obtain ⟨x, hkx⟩ : ∃ x, xs[k]? = some x := ⟨_, List.getElem?_eq_getElem hlt⟩
        obtain ⟨b, off, rfl, hbl, hcx⟩ := hx.out.five hkx
        have Hst := Lib.hid (allD_step hkx)
        have Hbad := Lib.hid (allD_bad hkx)
        clear hkx
        obtain ⟨c0, c1, c2, c3, c4⟩ := hcx.below hb hbl
        clear hcx
        rcases hd : dOkD x with _ | _
        · go_wp2_with fail
          refine (l2GoodD_any x _).mono ?_
          rintro e w3 ⟨rfl, b3⟩
          have B3 : Below w.heap.size w w3 := Below.chain hb (by go_grown) b3 (by go_size)
          go_wp2
          go_ret
          exact ⟨ret_bool (Hbad.out hd).symm, B3⟩
        · go_wp2_with fail
          refine (l2GoodD_any x _).mono ?_
          rintro e w3 ⟨rfl, b3⟩
          have B3 : Below w.heap.size w w3 := Below.chain hb (by go_grown) b3 (by go_size)
          go_wp2
          go_roundw
          case rel => exact ⟨k + 1, by go_num, by omega, by rw [Hst.out, Hall.out, hd]; rfl, B3⟩
          case measure => simp [intOf]; omega
      · go_wp2
        go_ret
        have h := Hall.out
        rw [List.take_of_length_le (by omega)] at h
        exact ⟨ret_bool h.symm, hb⟩
  · go_enter Try.func79, Try.ntmps79
    go_wp2_with fail
    refine (l3Dim_any _ _).mono ?_
    rintro e w1 ⟨rfl, b1⟩
    obtain ⟨b1c, b1f⟩ := bcell b1
    have z1 := b1.size
    try simp only [World.size_alloc] at z1
    have B1 : Below w.heap.size w w1 := Below.chain (Below.refl _ _) (by go_grown) b1 (by go_size)
    have y10 : w.heap.size < w1.heap.size := by omega
    go_wp2_with fail
    refine (l3Dim_any _ _).mono ?_
    rintro e w2 ⟨rfl, b2⟩
    have z2 := b2.size
    try simp only [World.size_alloc] at z2
    have C2 := Below.chain b1 (by go_grown) b2 (by go_size)
    have B2 : Below w.heap.size w w2 := Below.chain B1 (by go_grown) b2 (by go_size)
    obtain ⟨b2c, b2f⟩ := bcell b2
    obtain ⟨C2c, C2f⟩ := bcellB C2
    have y20 : w.heap.size < w2.heap.size := by omega
    try (have v21 : w1.heap.size < w2.heap.size := by omega)
    go_wp2
    go_ret
    refine ⟨ret_bool (by simp [mOk, hl]), ?_⟩
    go_grown

set_option maxHeartbeats 2000000 in
theorem notValid_any (x : D5) (w : World) :
    Calls Try.prog 117 #[dvD x] w fun e w' => e = .returned (.bool (!dOkD x)) ∧ Below w.heap.size w w' := by
  go_enter Try.func117, Try.ntmps117
  go_wp2_with fail
  refine (implValidD_any x _).mono ?_
  rintro e w1 ⟨rfl, b1⟩
  obtain ⟨b1c, b1f⟩ := bcell b1
  have z1 := b1.size
  try simp only [World.size_alloc] at z1
  have B1 : Below w.heap.size w w1 := Below.chain (Below.refl _ _) (by go_grown) b1 (by go_size)
  have y10 : w.heap.size < w1.heap.size := by omega
  go_wp2
  go_ret
  refine ⟨rfl, ?_⟩
  go_grown

set_option maxHeartbeats 2000000 in
theorem indexD_any (A : Option Addr) (cap : Nat) (xs : List D5) (w : World) (hn : xs.length ≤ 1048576) (hx : Hid (FlatAt w A (flatD xs))) :
    Calls Try.prog 129 #[.slice A xs.length cap, .func (Fn.func 117) #[] #[]] w fun e w' => ∃ i : Int, e = .returned (.int .i64 i) ∧ decide (0 ≤ i) = (!xs.all dOkD) ∧ Below w.heap.size w w' := by
  go_enter Try.func129, Try.ntmps129
  go_wp2_with fail
  go_loopw [8] (fun i wr => ∃ k : Nat, i = .int .i64 k ∧ k ≤ xs.length ∧ (xs.take k).all dOkD = true ∧ Below w.heap.size w wr) (fun i _ => xs.length - (intOf i).toNat)
  case atStart => exact ⟨0, rfl, Nat.zero_le _, rfl, Below.refl _ _⟩
  case round =>
    obtain ⟨k, rfl, hk, hall, hb⟩ := hrel
    have zb := hb.size
    have Hall := Lib.hid hall
    clear hall
    by_cases hlt : k < xs.length
    · obtain ⟨x, hkx⟩ : ∃ x, xs[k]? = some x := ⟨_, List.getElem?_eq_getElem hlt⟩
      obtain ⟨b, off, rfl, hbl, hcx⟩ := hx.out.five hkx
      have Hst := Lib.hid (allD_step hkx)
      have Hbad := Lib.hid (allD_bad hkx)
      clear hkx
      obtain ⟨c0, c1, c2, c3, c4⟩ := hcx.below hb hbl
      clear hcx
      rcases hd : dOkD x with _ | _
      · go_wp2_with fail
        refine (notValid_any x _).mono ?_
        rintro e w3 ⟨rfl, b3⟩
        have B3 : Below w.heap.size w w3 := Below.chain hb (by go_grown) b3 (by go_size)
        rw [hd]
        go_wp2
        go_ret
        exact ⟨_, rfl, by rw [Hbad.out hd]; simp, B3⟩
      · go_wp2_with fail
        refine (notValid_any x _).mono ?_
        rintro e w3 ⟨rfl, b3⟩
        have B3 : Below w.heap.size w w3 := Below.chain hb (by go_grown) b3 (by go_size)
        rw [hd]
        go_wp2
        go_roundw
        case rel => exact ⟨k + 1, by go_num, by omega, by rw [Hst.out, Hall.out, hd]; rfl, B3⟩
        case measure => simp [intOf]; omega
    · go_wp2
      go_ret
      have h := Hall.out
      rw [List.take_of_length_le (by omega)] at h
      exact ⟨_, rfl, by rw [h]; rfl, hb⟩

set_option maxHeartbeats 2000000 in
theorem containsD_any (A : Option Addr) (cap : Nat) (xs : List D5) (w : World) (hn : xs.length ≤ 1048576) (hx : Hid (FlatAt w A (flatD xs))) :
    Calls Try.prog 116 #[.slice A xs.length cap, .func (Fn.func 117) #[] #[]] w fun e w' => e = .returned (.bool (!xs.all dOkD)) ∧ Below w.heap.size w w' := by
  go_enter Try.func116, Try.ntmps116
  go_wp2_with fail
  refine (indexD_any A cap xs _ hn hx).mono ?_
  rintro e w1 ⟨i, rfl, hi, b1⟩
  have Hi := Lib.hid hi
  clear hi
  go_wp2
  go_ret
  exact ⟨ret_bool Hi.out, b1⟩

set_option maxHeartbeats 2000000 in
theorem implValidM_any (r c : Int) (A : Option Addr) (cap : Nat) (xs : List D5) (w : World) (hn : xs.length ≤ 1048576) (hx : Hid (FlatAt w A (flatD xs))) :
    Calls Try.prog 82 #[mv r c A xs.length cap] w fun e w' => e = .returned (.bool (mOk r c xs)) ∧ Below w.heap.size w w' := by
  rcases hr : dimB r with _ | _
  · go_enter Try.func82, Try.ntmps82
    go_wp2_with fail
    refine (isDim_any _ _).mono ?_
    rintro e w' ⟨rfl, rfl⟩
    go_wp2
    go_ret
    refine ⟨ret_bool (by simp [mOk, hr]), ?_⟩
    go_grown
  rcases hc : dimB c with _ | _
  · go_enter Try.func82, Try.ntmps82
    go_wp2_with fail
    refine (isDim_any _ _).mono ?_
    rintro e w' ⟨rfl, rfl⟩
    go_wp2_with fail
    refine (isDim_any _ _).mono ?_
    rintro e w' ⟨rfl, rfl⟩
    go_wp2
    go_ret
    refine ⟨ret_bool (by simp [mOk, hc]), ?_⟩
    go_grown
  obtain ⟨hb1, hb2⟩ := dim_mul hr hc
  by_cases hl : (xs.length : Int) = r * c
  · have Hl : Hid (mOk r c xs = xs.all dOkD) := by show mOk r c xs = _; simp [mOk, hr, hc, hl]
    rw [Hl.out]
    clear Hl
    go_enter Try.func82, Try.ntmps82
    go_wp2_with fail
    refine (isDim_any _ _).mono ?_
    rintro e w' ⟨rfl, rfl⟩
    go_wp2_with fail
    refine (isDim_any _ _).mono ?_
    rintro e w' ⟨rfl, rfl⟩
    go_wp2_with fail
    refine (containsD_any A cap xs _ hn (hx.out.alloc _)).mono ?_
    rintro e w1 ⟨rfl, b1⟩
    have B1 : Below w.heap.size w w1 := Below.chain (Below.refl _ _) (by go_grown) b1 (by go_size)
    go_wp2
    go_ret
    refine ⟨ret_bool (by simp), B1⟩
  · go_enter Try.func82, Try.ntmps82
    go_wp2_with fail
    refine (isDim_any _ _).mono ?_
    rintro e w' ⟨rfl, rfl⟩
    go_wp2_with fail
    refine (isDim_any _ _).mono ?_
    rintro e w' ⟨rfl, rfl⟩
    go_wp2
    go_ret
    refine ⟨ret_bool (by simp [mOk, hl]), ?_⟩
    go_grown
end Go.Proofs.Ytphdcamihkgdiaa
