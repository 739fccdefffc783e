/- Validity of circuits, of the program and of the reference. -/
import Derived.Test.YtlihnipbdckmkaaLocC
namespace Go.Proofs.Ytlihnipbdckmkaa
open Go.RowKit

def gOkG (q : Int) (x : G3) : Bool := gateB q x.1 x.2.1 x.2.2
def cOk (q : Int) (xs : List G3) : Bool := inB q 1 5 && decide (xs.length ≤ 400) && xs.all (gOkG q)
theorem allG_step {p : G3 → Bool} {xs : List G3} {k : Nat} {x : G3} (h : xs[k]? = some x) : (xs.take (k + 1)).all p = ((xs.take k).all p && p x) := by
  obtain ⟨hk, rfl⟩ := List.getElem?_eq_some_iff.1 h
  rw [List.take_succ_eq_append_getElem hk, List.all_append]
  simp
theorem allG_bad {p : G3 → Bool} {xs : List G3} {k : Nat} {x : G3} (h : xs[k]? = some x) (hb : p x = false) : xs.all p = false := by
  obtain ⟨hk, rfl⟩ := List.getElem?_eq_some_iff.1 h
  rw [List.all_eq_false]
  exact ⟨xs[k], List.getElem_mem hk, by simpa using hb⟩
theorem validB_in {q k a b : Int} (h : inB q 1 5 = true) : validB q k a b = gateB q k a b := by simp [validB, h]

set_option maxHeartbeats 2000000 in
theorem l4Good_any (q : Int) (A : Option Addr) (cap : Nat) (xs : List G3) (w : World) (hn : xs.length ≤ 9223372036854775807) (hx : Hid (FlatAt w A (flatG xs))) :
    Calls Try.prog 48 #[cv q A xs.length cap] w fun e w' => e = .returned (.bool (cOk q xs)) ∧ Below w.heap.size w w' := by
  rcases hq : inB q 1 5 with _ | _
  · go_enter Try.func48, Try.ntmps48
    go_wp2_with fail
    refine (l1In_any _ _ _ _).mono ?_
    rintro e w' ⟨rfl, rfl⟩
    go_wp2
    go_ret
    refine ⟨ret_bool (by simp [cOk, hq]), ?_⟩
    go_grown
  obtain ⟨hq1, hq2⟩ := inB_t.1 hq
  by_cases hl : xs.length ≤ 400
  · have Hl : Hid (cOk q xs = xs.all (gOkG q)) := by show cOk q xs = _; simp [cOk, hq, hl]
    rw [Hl.out]
    clear Hl
    have hq' : inB q 1 5 = true := hq
    go_enter Try.func48, Try.ntmps48
    go_wp2_with fail
    refine (l1In_any _ _ _ _).mono ?_
    rintro e w' ⟨rfl, rfl⟩
    go_wp2_with fail
    go_loopw [18] (fun i wr => ∃ k : Nat, i = .int .i64 k ∧ k ≤ xs.length ∧ (xs.take k).all (gOkG q) = true ∧ wr.cell? ⟨w.heap.size, 0, none⟩ = some (.int .i64 q) ∧ w.heap.size < wr.heap.size ∧ Below w.heap.size w wr) (fun i _ => xs.length - (intOf i).toNat)
    case atStart => exact ⟨0, rfl, Nat.zero_le _, rfl, by go_simp, by go_size, by go_grown⟩
    case round =>
      obtain ⟨k, rfl, hk, hall, hcq, hlt0, hb⟩ := hrel
      have zb := hb.size
      have Hall := Lib.hid hall
      clear hall
      by_cases hlt : k < xs.length
      · obtain ⟨x, hkx⟩ : ∃ x, xs[k]? = some x := ⟨_, List.getElem?_eq_getElem hlt⟩
        obtain ⟨b, off, rfl, hbl, hcx⟩ := hx.out.three hkx
        have Hst := Lib.hid (allG_step (p := gOkG q) hkx)
        have Hbad := Lib.hid (allG_bad (p := gOkG q) hkx)
        clear hkx
        obtain ⟨c0, c1, c2⟩ := hcx.below hb hbl
        clear hcx
        rcases hd : gOkG q x with _ | _
        · have hd' : gateB q x.1 x.2.1 x.2.2 = false := hd
          go_wp2_with fail
          refine (l4Gate_any _ _ _ _ _ hq1 hq2).mono ?_
          rintro e w3 ⟨rfl, b3⟩
          have B3 : Below w.heap.size w w3 := Below.chain hb (by go_grown) b3 (by go_size)
          rw [hd']
          go_wp2
          go_ret
          exact ⟨ret_bool (Hbad.out hd).symm, B3⟩
        · have hd' : gateB q x.1 x.2.1 x.2.2 = true := hd
          go_wp2_with fail
          refine (l4Gate_any _ _ _ _ _ hq1 hq2).mono ?_
          rintro e w3 ⟨rfl, b3⟩
          have B3 : Below w.heap.size w w3 := Below.chain hb (by go_grown) b3 (by go_size)
          have c3 : w3.cell? ⟨w.heap.size, 0, none⟩ = some (.int .i64 q) := (b3.cell (p := ⟨w.heap.size, 0, none⟩) (by go_size)).trans (by go_simp)
          have z3 := b3.size
          simp only [World.size_alloc] at z3
          rw [hd']
          go_wp2
          go_roundw
          case rel => exact ⟨k + 1, by go_num, by omega, by rw [Hst.out, Hall.out, hd]; rfl, c3, by omega, B3⟩
          case measure => simp [intOf]; omega
      · go_wp2
        go_ret
        have h := Hall.out
        rw [List.take_of_length_le (by omega)] at h
        exact ⟨ret_bool h.symm, hb⟩
  · go_enter Try.func48, Try.ntmps48
    go_wp2_with fail
    refine (l1In_any _ _ _ _).mono ?_
    rintro e w' ⟨rfl, rfl⟩
    go_wp2
    go_ret
    refine ⟨ret_bool (by simp [cOk, hl]), ?_⟩
    go_grown

set_option maxHeartbeats 2000000 in
theorem notValidG_any (q : Int) (x : G3) (bc : Nat) (A : Option Addr) (n cap : Nat) (w : World) (hq : inB q 1 5 = true) (hc : Hid (LocC w bc q A n cap)) :
    Calls Try.prog 68 #[gvG x, .pointer (some ⟨bc, 0, none⟩)] w fun e w' => e = .returned (.bool (!gOkG q x)) ∧ Below w.heap.size w w' := by
  have hv : Hid (validB q x.1 x.2.1 x.2.2 = gOkG q x) := validB_in hq
  obtain ⟨m0, m1, m2⟩ := hc.out
  go_enter Try.func68, Try.ntmps68
  go_wp2_with fail
  refine (implValidGate_any _ _ _ _ _).mono ?_
  rintro e w1 ⟨rfl, b1⟩
  obtain ⟨b1c, b1f⟩ := bcell b1
  have z1 := b1.size
  try simp only [World.size_alloc] at z1
  have B1 : Below w.heap.size w w1 := Below.chain (Below.refl _ _) (by go_grown) b1 (by go_size)
  have y10 : w.heap.size < w1.heap.size := by omega
  rw [hv.out]
  go_wp2
  go_ret
  refine ⟨rfl, ?_⟩
  go_grown

set_option maxHeartbeats 2000000 in
theorem indexG_any (q : Int) (bc : Nat) (C : Option Addr) (m capC : Nat) (A : Option Addr) (cap : Nat) (xs : List G3) (w : World) (hn : xs.length ≤ 1048576) (hq : inB q 1 5 = true) (hc : Hid (LocC w bc q C m capC)) (hx : Hid (FlatAt w A (flatG xs))) :
    Calls Try.prog 77 #[.slice A xs.length cap, .func (Fn.func 68) #[] #[.pointer (some ⟨bc, 0, none⟩)]] w fun e w' => ∃ i : Int, e = .returned (.int .i64 i) ∧ decide (0 ≤ i) = (!xs.all (gOkG q)) ∧ Below w.heap.size w w' := by
  go_enter Try.func77, Try.ntmps77
  go_wp2_with fail
  go_loopw [8] (fun i wr => ∃ k : Nat, i = .int .i64 k ∧ k ≤ xs.length ∧ (xs.take k).all (gOkG q) = true ∧ Below w.heap.size w wr) (fun i _ => xs.length - (intOf i).toNat)
  case atStart => exact ⟨0, rfl, Nat.zero_le _, rfl, Below.refl _ _⟩
  case round =>
    obtain ⟨k, rfl, hk, hall, hb⟩ := hrel
    have zb := hb.size
    have Hall := Lib.hid hall
    have Hc := Lib.hid (hc.out.call hb)
    clear hall
    by_cases hlt : k < xs.length
    · obtain ⟨x, hkx⟩ : ∃ x, xs[k]? = some x := ⟨_, List.getElem?_eq_getElem hlt⟩
      obtain ⟨b, off, rfl, hbl, hcx⟩ := hx.out.three hkx
      have Hst := Lib.hid (allG_step (p := gOkG q) hkx)
      have Hbad := Lib.hid (allG_bad (p := gOkG q) hkx)
      clear hkx
      obtain ⟨c0, c1, c2⟩ := hcx.below hb hbl
      clear hcx
      rcases hd : gOkG q x with _ | _
      · go_wp2_with fail
        refine (notValidG_any q x bc _ _ _ _ hq Hc.out).mono ?_
        rintro e w3 ⟨rfl, b3⟩
        have B3 : Below w.heap.size w w3 := Below.chain hb (by go_grown) b3 (by go_size)
        rw [hd]
        go_wp2
        go_ret
        exact ⟨_, rfl, by rw [Hbad.out hd]; simp, B3⟩
      · go_wp2_with fail
        refine (notValidG_any q x bc _ _ _ _ hq Hc.out).mono ?_
        rintro e w3 ⟨rfl, b3⟩
        have B3 : Below w.heap.size w w3 := Below.chain hb (by go_grown) b3 (by go_size)
        rw [hd]
        go_wp2
        go_roundw
        case rel => exact ⟨k + 1, by go_num, by omega, by rw [Hst.out, Hall.out, hd]; rfl, B3⟩
        case measure => simp [intOf]; omega
    · go_wp2
      go_ret
      have h := Hall.out
      rw [List.take_of_length_le (by omega)] at h
      exact ⟨_, rfl, by rw [h]; rfl, hb⟩

set_option maxHeartbeats 2000000 in
theorem containsG_any (q : Int) (bc : Nat) (C : Option Addr) (m capC : Nat) (A : Option Addr) (cap : Nat) (xs : List G3) (w : World) (hn : xs.length ≤ 1048576) (hq : inB q 1 5 = true) (hc : Hid (LocC w bc q C m capC)) (hx : Hid (FlatAt w A (flatG xs))) :
    Calls Try.prog 67 #[.slice A xs.length cap, .func (Fn.func 68) #[] #[.pointer (some ⟨bc, 0, none⟩)]] w fun e w' => e = .returned (.bool (!xs.all (gOkG q))) ∧ Below w.heap.size w w' := by
  go_enter Try.func67, Try.ntmps67
  go_wp2_with fail
  refine (indexG_any q bc C m capC A cap xs _ hn hq hc hx).mono ?_
  rintro e w1 ⟨i, rfl, hi, b1⟩
  have Hi := Lib.hid hi
  clear hi
  go_wp2
  go_ret
  exact ⟨ret_bool Hi.out, b1⟩

set_option maxHeartbeats 2000000 in
theorem implValidC_any (q : Int) (A : Option Addr) (cap : Nat) (xs : List G3) (w : World) (hn : xs.length ≤ 1048576) (hx : Hid (FlatAt w A (flatG xs))) :
    Calls Try.prog 45 #[cv q A xs.length cap] w fun e w' => e = .returned (.bool (cOk q xs)) ∧ Below w.heap.size w w' := by
  have hmf := fun (fn : Fn) (first cap : Array Value) (w : World) => (rfl : (Instr.makeFunc fn first cap).run Try.prog w = .ok (.func fn first cap) w)
  rcases hq : inB q 1 5 with _ | _
  · go_enter Try.func45, Try.ntmps45
    go_wp2_with fail
    refine (within_any _ _ _ _).mono ?_
    rintro e w' ⟨rfl, rfl⟩
    go_wp2
    go_ret
    refine ⟨ret_bool (by simp [cOk, hq]), ?_⟩
    go_grown
  by_cases hl : xs.length ≤ 400
  · have Hl : Hid (cOk q xs = xs.all (gOkG q)) := by show cOk q xs = _; simp [cOk, hq, hl]
    rw [Hl.out]
    clear Hl
    go_enter Try.func45, Try.ntmps45
    go_wp2_with fail
    refine (within_any _ _ _ _).mono ?_
    rintro e w' ⟨rfl, rfl⟩
    have L0 : Hid (LocC (w.alloc (.cells #[.int .i64 q, .slice A xs.length cap] 38)) w.heap.size q A xs.length cap) := LocC.of_row (heap_top _ _ rfl)
    go_wp2_with fail
    refine (containsG_any q w.heap.size A xs.length cap A cap xs _ hn hq L0 (hx.out.alloc _)).mono ?_
    rintro e w1 ⟨rfl, b1⟩
    have B1 : Below w.heap.size w w1 := Below.chain (Below.refl _ _) (by go_grown) b1 (by go_size)
    go_wp2
    go_ret
    refine ⟨ret_bool (by simp), B1⟩
  · go_enter Try.func45, Try.ntmps45
    go_wp2_with fail
    refine (within_any _ _ _ _).mono ?_
    rintro e w' ⟨rfl, rfl⟩
    go_wp2
    go_ret
    refine ⟨ret_bool (by simp [cOk, hl]), ?_⟩
    go_grown
end Go.Proofs.Ytlihnipbdckmkaa
