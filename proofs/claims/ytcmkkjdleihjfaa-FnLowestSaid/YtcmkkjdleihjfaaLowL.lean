/- FnLowest: dyadic numbers in blocks, contracts in one form, plain facts. -/
import Derived.Test.YtcmkkjdleihjfaaCmpB
import Derived.Test.YtcmkkjdleihjfaaDrw5
namespace Go.Proofs.Ytcmkkjdleihjfaa
open Go.RowKit

/-- block b is a dyadic number -/
def Blk5 (w : World) (g : Nat) (x : D5) : Prop := w.heap[g]? = some (.cells #[.int .i64 x.1.1, .int .i64 x.1.2.1, .int .i64 x.1.2.2.1, .int .i64 x.1.2.2.2, .int .i64 x.2] 52 (0, 0))
theorem Blk5.cell {w : World} {g : Nat} {x : D5} (h : Blk5 w g x) : w.cell? ⟨g, 0, none⟩ = some (.int .i64 x.1.1) ∧ w.cell? ⟨g, 1, none⟩ = some (.int .i64 x.1.2.1) ∧ w.cell? ⟨g, 2, none⟩ = some (.int .i64 x.1.2.2.1) ∧ w.cell? ⟨g, 3, none⟩ = some (.int .i64 x.1.2.2.2) ∧ w.cell? ⟨g, 4, none⟩ = some (.int .i64 x.2) :=
  ⟨cell_of_row w g 0 _ _ _ h, cell_of_row w g 1 _ _ _ h, cell_of_row w g 2 _ _ _ h, cell_of_row w g 3 _ _ _ h, cell_of_row w g 4 _ _ _ h⟩
theorem Blk5.lt {w : World} {b : Nat} {x : D5} (h : Blk5 w b x) : b < w.heap.size := (Array.getElem?_eq_some_iff.1 h).1
theorem Blk5.below {B : Nat} {w w' : World} {g : Nat} {x : D5} (h : Blk5 w g x) (hb : Below B w w') (hg : g < B) : Blk5 w' g x := (hb.block g hg).trans h
theorem Blk5.alloc {w : World} {g : Nat} {x : D5} (h : Blk5 w g x) (o : Obj) : Blk5 (w.alloc o) g x := (Below.heap_alloc _ _ _ h.lt).trans h
theorem Blk5.new {w : World} {g : Nat} (a b c d e : Int) (hg : g = w.heap.size) : Blk5 (w.alloc (.cells #[.int .i64 a, .int .i64 b, .int .i64 c, .int .i64 d, .int .i64 e] 52)) g ((a, b, c, d), e) := heap_top _ _ hg
theorem Blk5.far {w : World} {g : Nat} {x : D5} (h : Blk5 w g x) {p : Addr} (hp : g ≠ p.block) (u : Value) : Blk5 (w.setCell p u) g x := (Below.heap_setCell w p u g hp).trans h
/-- a call hands back a dyadic number and a bool -/
def DOut (w : World) (ok : Bool) (m : D5) (e : Ending) (w' : World) : Prop :=
  ∃ (o : Bool) (a b c d x : Int), e = .returned (.tuple #[dv a b c d x, .bool o]) ∧ (o = ok ∧ (((a, b, c, d), x) : D5) = zD ok m) ∧ Below w.heap.size w w'
theorem DOut.of {w w' : World} {e : Ending} {ok : Bool} {m : D5} (h : e = .returned (dyRes ok m) ∧ Below w.heap.size w w') : DOut w ok m e w' := by
  obtain ⟨h1, h2⟩ := h
  rw [dyRes_z] at h1
  exact ⟨_, _, _, _, _, _, h1, ⟨rfl, rfl⟩, h2⟩
def lowOkQ (q : Q4) (e : Int) : Bool := lowOk q.1 q.2.1 q.2.2.1 q.2.2.2 e
theorem implLowX (q : Q4) (e : Int) (w : World) : Calls Try.prog 37 #[rv q.1 q.2.1 q.2.2.1 q.2.2.2, .int .i64 e] w fun r w' => DOut w (lowOkQ q e) (lowD e q) r w' :=
  (implDyadicOf_any _ _ _ _ _ w).mono fun _ _ h => DOut.of h
theorem specLowX (q : Q4) (e : Int) (w : World) : Calls Try.prog 38 #[rv q.1 q.2.1 q.2.2.1 q.2.2.2, .int .i64 e] w fun r w' => DOut w (lowOkQ q e) (lowD e q) r w' :=
  (specDyadicOf_any _ _ _ _ _ w).mono fun _ _ h => DOut.of h
theorem specRootX (x : Q4) (w : World) : Calls Try.prog 39 #[rv x.1 x.2.1 x.2.2.1 x.2.2.2] w fun e w' => ROut w (okQ x && okQ (rootQ x)) (rootQ x) e w' :=
  (specRoot_any _ _ _ _ w).mono fun _ _ h => ROut.of h
theorem sameDO {o o' ok : Bool} {q q' m : D5} (h : o = ok ∧ q = zD ok m) (h' : o' = ok ∧ q' = zD ok m) : o = o' ∧ q = q' := ⟨h.1.trans h'.1.symm, h.2.trans h'.2.symm⟩
theorem d5_inj {a b c d x a' b' c' d' x' : Int} (h : (((a, b, c, d), x) : D5) = ((a', b', c', d'), x')) : a = a' ∧ b = b' ∧ c = c' ∧ d = d' ∧ x = x' := by
  simp only [Prod.mk.injEq] at h
  exact ⟨h.1.1, h.1.2.1, h.1.2.2.1, h.1.2.2.2, h.2⟩
theorem lowN_end : ∀ (e : Nat) (x : Q4), (lowN e x).2 = 0 ∨ evenQ (lowN e x).1 = false
  | 0, _ => .inl rfl
  | e + 1, x => by
    unfold lowN
    by_cases h : evenQ x = true
    · rw [if_pos h]
      exact lowN_end e _
    · rw [if_neg h]
      exact .inr (by simpa using h)
theorem low_valid {q : Q4} {n : Nat} (h : okQ q = true) (hn : n ≤ 60) : dOkD (lowD (n : Int) q) = true := by
  have h1 := lowN_ok n q h
  have h2 := lowN_le n q
  have h3 := lowN_end n q
  unfold dOkD dOk lowD
  simp only [Int.toNat_natCast]
  have e1 : rOk (lowN n q).1.1 (lowN n q).1.2.1 (lowN n q).1.2.2.1 (lowN n q).1.2.2.2 = true := h1
  rw [e1, inB_yes (by omega) (by omega)]
  rcases h3 with h3 | h3
  · simp [h3]
  · have e2 : evenB (lowN n q).1.1 (lowN n q).1.2.1 (lowN n q).1.2.2.1 (lowN n q).1.2.2.2 = false := h3
    simp [e2]
theorem sgn_bd (n : Int) : sgn n = -1 ∨ sgn n = 0 ∨ sgn n = 1 := by
  rcases sgn_cases n with ⟨_, h⟩ | ⟨_, h⟩ | ⟨_, h⟩ <;> rw [h] <;> simp
theorem sgn2_bd (u v : Int) : sgn2 u v = -1 ∨ sgn2 u v = 0 ∨ sgn2 u v = 1 := by
  unfold sgn2
  split
  · exact sgn_bd _
  · rcases sgn_bd u with h | h | h <;> rcases sgn_bd (u * u - 2 * v * v) with k | k | k <;> rw [h, k] <;> decide
theorem cmpR_bd (x y : D5) : (cmpR x y).1 = -1 ∨ (cmpR x y).1 = 0 ∨ (cmpR x y).1 = 1 := by
  unfold cmpR
  split
  · simp only [rI]
    split
    · exact sgn2_bd _ _
    · exact .inr (.inl rfl)
  · exact .inr (.inl rfl)
/-- what DyadicOf's success says -/
theorem low_facts {q : Q4} {e : Int} {y : Q4} {f : Int} (h : lowOkQ q e = true) (hv : ((y, f) : D5) = lowD e q) :
    ∃ n F : Nat, e = (n : Int) ∧ f = (F : Int) ∧ F ≤ n ∧ n ≤ 60 ∧ okQ q = true ∧ y = halfI (n - F) q ∧ F = (lowN n q).2 ∧ dOkD (y, f) = true := by
  unfold lowOkQ lowOk at h
  rw [Bool.and_eq_true] at h
  obtain ⟨h1, h2⟩ := h
  obtain ⟨k1, k2⟩ := inB_t.1 h2
  obtain ⟨n, rfl⟩ := Int.eq_ofNat_of_zero_le k1
  have hq : okQ q = true := h1
  have hd := low_valid hq (show n ≤ 60 by omega)
  rw [← hv] at hd
  unfold lowD at hv
  simp only [Int.toNat_natCast, Prod.mk.injEq] at hv
  obtain ⟨rfl, rfl⟩ := hv
  exact ⟨n, _, rfl, rfl, lowN_le _ _, by omega, hq, (lowN_halfI n q).1, rfl, hd⟩
theorem root_step {n k : Nat} {q p : Q4} {o : Bool} (hq : okQ q = true) (h1 : (lowN n q).2 ≤ k) (h2 : k < n) (h : o = (okQ (halfI (n - k) q) && okQ (rootQ (halfI (n - k) q))) ∧ p = zQ (okQ (halfI (n - k) q) && okQ (rootQ (halfI (n - k) q))) (rootQ (halfI (n - k) q))) :
    o = true ∧ p = halfI (n - (k + 1)) q := by
  rw [halfI_ok _ q hq, low_up h1 h2, halfI_ok _ q hq] at h
  exact ⟨h.1, h.2⟩
end Go.Proofs.Ytcmkkjdleihjfaa
