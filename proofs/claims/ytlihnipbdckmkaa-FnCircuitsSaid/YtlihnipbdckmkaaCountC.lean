/- Counting gates: counted over any predicate, CountT, CountTwo, IsClifford, of the program and of the reference. -/
import Derived.Test.YtlihnipbdckmkaaGoodC
namespace Go.Proofs.Ytlihnipbdckmkaa
open Go.RowKit

/-- how many gates are of a kind -/
def cntG (p : Int → Bool) (xs : List G3) : Nat := (xs.filter fun x => p x.1).length
theorem cntG_step {p : Int → Bool} {xs : List G3} {k : Nat} {x : G3} (h : xs[k]? = some x) : cntG p (xs.take (k + 1)) = cntG p (xs.take k) + (if p x.1 then 1 else 0) := by
  obtain ⟨hk, rfl⟩ := List.getElem?_eq_some_iff.1 h
  unfold cntG
  rw [List.take_succ_eq_append_getElem hk, List.filter_append, List.length_append]
  rcases hp : p (xs[k]).1 with _ | _ <;> simp [hp]
theorem cntG_le (p : Int → Bool) (xs : List G3) : cntG p xs ≤ xs.length := List.length_filter_le _ _
theorem cntG_take (p : Int → Bool) (xs : List G3) (k : Nat) : cntG p (xs.take k) ≤ xs.length := Nat.le_trans (cntG_le _ _) (by rw [List.length_take]; omega)
def cntRes (p : Int → Bool) (q : Int) (xs : List G3) : Value := .tuple #[.int .i64 (rI (cOk q xs) (cntG p xs : Int)), .bool (cOk q xs)]
theorem cOk_len {q : Int} {xs : List G3} (h : cOk q xs = true) : xs.length ≤ 400 := by
  simp only [cOk, Bool.and_eq_true, decide_eq_true_eq] at h
  exact h.1.2
theorem cOk_q {q : Int} {xs : List G3} (h : cOk q xs = true) : 1 ≤ q ∧ q ≤ 5 := by
  simp only [cOk, Bool.and_eq_true, decide_eq_true_eq] at h
  exact inB_t.1 h.1.1

set_option maxHeartbeats 4000000 in
theorem counted_any (q : Int) (A : Option Addr) (cap : Nat) (xs : List G3) (K : FuncId) (p : Int → Bool) (w : World) (hn : xs.length ≤ 1048576) (hx : Hid (FlatAt w A (flatG xs)))
    (hrun : ∀ (args : Array Value) (W : World), (callFunc K args).run Try.prog W = .ok (.enter K args) W)
    (hp : Hid (∀ (k : Int) (W : World), Calls Try.prog K #[.int .i64 k] W fun e W' => e = .returned (.bool (p k)) ∧ W = W')) :
    Calls Try.prog 50 #[cv q A xs.length cap, .func (Fn.func K) #[] #[]] w fun e w' => e = .returned (cntRes p q xs) ∧ Below w.heap.size w w' := by
  rcases hok : cOk q xs with _ | _
  · go_enter Try.func50, Try.ntmps50
    go_wp2_with fail
    refine (implValidC_any q A cap xs _ hn (hx.out.alloc _)).mono ?_
    rintro e w1 ⟨rfl, b1⟩
    obtain ⟨b1c, b1f⟩ := bcell b1
    have z1 := b1.size
    try simp only [World.size_alloc] at z1
    have B1 : Below w.heap.size w w1 := Below.chain (Below.refl _ _) (by go_grown) b1 (by go_size)
    have y10 : w.heap.size < w1.heap.size := by omega
    rw [hok]
    go_wp2
    refine bodyPost_ret (by simp [results, Try.results50, go_sem, cntRes, hok, rI_f]) rfl ⟨rfl, ?_⟩
    go_grown
  · have Hok := Lib.hid hok
    have hlen := cOk_len hok
    clear hok
    go_enter Try.func50, Try.ntmps50
    go_wp2_with fail
    refine (implValidC_any q A cap xs _ hn (hx.out.alloc _)).mono ?_
    rintro e w1 ⟨rfl, b1⟩
    obtain ⟨b1c, b1f⟩ := bcell b1
    have z1 := b1.size
    try simp only [World.size_alloc] at z1
    have B1 : Below w.heap.size w w1 := Below.chain (Below.refl _ _) (by go_grown) b1 (by go_size)
    have y10 : w.heap.size < w1.heap.size := by omega
    rw [Hok.out]
    go_wp2_with fail
    go_loopw [6, 15] (fun n i wr => ∃ k : Nat, i = .int .i64 k ∧ k ≤ xs.length ∧ n = .int .i64 (cntG p (xs.take k) : Int) ∧ Below w.heap.size w wr) (fun _ i _ => xs.length - (intOf i).toNat)
    case atStart => exact ⟨0, rfl, Nat.zero_le _, rfl, B1⟩
    case round =>
      obtain ⟨k, rfl, hk, rfl, hb⟩ := hrel
      have hcl := cntG_take p xs k
      have zb := hb.size
      have Hp := Lib.hid hp.out
      by_cases hlt : k < xs.length
      · obtain ⟨x, hkx⟩ : ∃ x, xs[k]? = some x := ⟨_, List.getElem?_eq_getElem hlt⟩
        obtain ⟨b, off, rfl, hbl, hcx⟩ := hx.out.three hkx
        have Hst := Lib.hid (cntG_step (p := p) hkx)
        clear hkx
        obtain ⟨c0, c1, c2⟩ := hcx.below hb hbl
        clear hcx
        rcases hd : p x.1 with _ | _
        · rw [hd] at Hst
          go_wp2_with fail
          refine (Hp.out _ _).mono ?_
          rintro e w3 ⟨rfl, rfl⟩
          rw [hd]
          go_wp2
          go_roundw
          case rel => exact ⟨k + 1, by go_num, by omega, by rw [Hst.out]; rfl, by go_grown⟩
          case measure => simp [intOf]; omega
        · rw [hd] at Hst
          go_wp2_with fail
          refine (Hp.out _ _).mono ?_
          rintro e w3 ⟨rfl, rfl⟩
          rw [hd]
          go_wp2
          go_roundw
          case rel => exact ⟨k + 1, by go_num, by omega, by rw [Hst.out]; go_num, by go_grown⟩
          case measure => simp [intOf]; omega
      · go_wp2
        have Hr : Hid (cntRes p q xs = .tuple #[.int .i64 (cntG p xs : Int), .bool true]) := by show cntRes p q xs = _; simp [cntRes, Hok.out, rI_t]
        rw [Hr.out, List.take_of_length_le (by omega)]
        go_ret2
        exact ⟨rfl, hb⟩

set_option maxHeartbeats 1000000 in
theorem isT_any (k : Int) (w : World) : Calls Try.prog 51 #[.int .i64 k] w fun e w' => e = .returned (.bool (inB k 7 8)) ∧ w = w' := by
  by_cases h7 : k = 7
  · subst h7
    go_enter Try.func51, Try.ntmps51
    go_wp2
    go_ret
    exact ⟨rfl, rfl⟩
  by_cases h8 : k = 8
  · subst h8
    go_enter Try.func51, Try.ntmps51
    go_wp2
    go_ret
    exact ⟨rfl, rfl⟩
  · have f7 : (k == 7) = false := by simpa using h7
    have f8 : (k == 8) = false := by simpa using h8
    have hf : inB k 7 8 = false := inB_f.2 (by omega)
    clear h7 h8
    go_enter Try.func51, Try.ntmps51
    go_wp2
    go_ret
    exact ⟨ret_bool hf.symm, rfl⟩

def cliffK (k : Int) : Bool := inB k 7 8 || k == 12

set_option maxHeartbeats 1000000 in
theorem implCountT_any (q : Int) (A : Option Addr) (cap : Nat) (xs : List G3) (w : World) (hn : xs.length ≤ 1048576) (hx : Hid (FlatAt w A (flatG xs))) :
    Calls Try.prog 16 #[cv q A xs.length cap] w fun e w' => e = .returned (cntRes (fun k => inB k 7 8) q xs) ∧ Below w.heap.size w w' := by
  go_enter Try.func16, Try.ntmps16
  go_wp2_with fail
  refine (counted_any q A cap xs 51 (fun k => inB k 7 8) _ hn (hx.out.alloc _) Try.call51 isT_any).mono ?_
  rintro e w1 ⟨rfl, b1⟩
  obtain ⟨b1c, b1f⟩ := bcell b1
  have z1 := b1.size
  try simp only [World.size_alloc] at z1
  have B1 : Below w.heap.size w w1 := Below.chain (Below.refl _ _) (by go_grown) b1 (by go_size)
  have y10 : w.heap.size < w1.heap.size := by omega
  unfold cntRes
  go_wp2
  go_ret2
  refine ⟨rfl, ?_⟩
  go_grown

theorem isTwo_any' (k : Int) (w : World) : Calls Try.prog 31 #[.int .i64 k] w fun e w' => e = .returned (.bool (inB k 9 11)) ∧ w = w' := isTwo_any k w

set_option maxHeartbeats 1000000 in
theorem implCountTwo_any (q : Int) (A : Option Addr) (cap : Nat) (xs : List G3) (w : World) (hn : xs.length ≤ 1048576) (hx : Hid (FlatAt w A (flatG xs))) :
    Calls Try.prog 19 #[cv q A xs.length cap] w fun e w' => e = .returned (cntRes (fun k => inB k 9 11) q xs) ∧ Below w.heap.size w w' := by
  go_enter Try.func19, Try.ntmps19
  go_wp2_with fail
  refine (counted_any q A cap xs 31 (fun k => inB k 9 11) _ hn (hx.out.alloc _) Try.call31 isTwo_any').mono ?_
  rintro e w1 ⟨rfl, b1⟩
  obtain ⟨b1c, b1f⟩ := bcell b1
  have z1 := b1.size
  try simp only [World.size_alloc] at z1
  have B1 : Below w.heap.size w w1 := Below.chain (Below.refl _ _) (by go_grown) b1 (by go_size)
  have y10 : w.heap.size < w1.heap.size := by omega
  unfold cntRes
  go_wp2
  go_ret2
  refine ⟨rfl, ?_⟩
  go_grown

def cliffRes (q : Int) (xs : List G3) : Value := .tuple #[.bool (cOk q xs && cntG cliffK xs == 0), .bool (cOk q xs)]

theorem cliff_split (xs : List G3) : ((cntG (fun k => inB k 7 8) xs : Int) + (cntG (fun k => inB k 12 12) xs : Int) == 0) = (cntG cliffK xs == 0) := by
  have h : cntG cliffK xs = cntG (fun k => inB k 7 8) xs + cntG (fun k => inB k 12 12) xs := by
    induction xs with
    | nil => rfl
    | cons x xs ih =>
      have e12 : inB x.1 12 12 = (x.1 == 12) := by rw [Bool.eq_iff_iff, inB_t]; simp; omega
      unfold cntG at ih ⊢
      rcases h1 : inB x.1 7 8 with _ | _
      · rcases h2 : (x.1 == 12) with _ | _
        · simp only [List.filter_cons, cliffK, h1, h2, e12, Bool.or_self, Bool.false_eq_true, if_false]
          exact ih
        · simp only [List.filter_cons, cliffK, h1, h2, e12, Bool.or_true, Bool.false_eq_true, if_false, if_true, List.length_cons]
          simp only [cliffK] at ih
          omega
      · have h2 : (x.1 == 12) = false := by have := inB_t.1 h1; simp; omega
        simp only [List.filter_cons, cliffK, h1, h2, e12, Bool.true_or, Bool.false_eq_true, if_false, if_true, List.length_cons]
        simp only [cliffK] at ih
        omega
  rw [h, Bool.eq_iff_iff]
  simp
  omega

end Go.Proofs.Ytlihnipbdckmkaa
