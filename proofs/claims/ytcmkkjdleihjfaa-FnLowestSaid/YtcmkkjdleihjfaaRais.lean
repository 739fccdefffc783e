/- Differences of dyadic numbers of the program, up to CompareAbs. -/
import Derived.Test.YtcmkkjdleihjfaaLowP
import Derived.Test.YtcmkkjdleihjfaaRgC
import Derived.Test.YtcmkkjdleihjfaaMulD
import Derived.Test.YtcmkkjdleihjfaaSign
import Derived.Test.YtcmkkjdleihjfaaDrw4
namespace Go.Proofs.Ytcmkkjdleihjfaa
open Go.RowKit

/-- k times multiplied by the square root of 2, if every product is valid -/
def raiseN : Nat → Q4 → Q4 × Bool
  | 0, x => (x, true)
  | k + 1, x => if okQ (rootQ x) then raiseN k (rootQ x) else ((0, 0, 0, 0), false)
theorem raiseN_succ (k : Nat) (x : Q4) : raiseN (k + 1) x = if okQ (rootQ x) then raiseN k (rootQ x) else ((0, 0, 0, 0), false) := rfl
def RInv (n e : Nat) (x : Q4) (b : Bool) (k : Nat) (y : Q4) : Prop := (b = true → okQ y = true ∧ raiseN (n - k) y = raiseN (n - e) x) ∧ (b = false → raiseN (n - e) x = (y, false))
theorem RInv.step {n e k : Nat} {x y q : Q4} {o : Bool} (h : RInv n e x true k y) (hk : k < n) (ho : o = (okQ y && okQ (rootQ y)) ∧ q = zQ (okQ y && okQ (rootQ y)) (rootQ y)) : RInv n e x o (k + 1) q := by
  obtain ⟨h1, h2⟩ := h.1 rfl
  obtain ⟨ho, hq⟩ := ho
  rw [h1, Bool.true_and] at ho hq
  rw [← ho] at hq
  have es : n - k = (n - (k + 1)) + 1 := by omega
  rw [es, raiseN_succ] at h2
  cases o with
  | true =>
    rw [← ho, if_pos rfl] at h2
    rw [zQ_t] at hq
    subst hq
    exact ⟨fun _ => ⟨ho.symm, h2⟩, fun h => by cases h⟩
  | false =>
    rw [← ho, if_neg (by decide)] at h2
    subst hq
    exact ⟨(fun h => by cases h), fun _ => h2.symm⟩
def RaOut (w : World) (m : Q4 × Bool) (e : Ending) (w' : World) : Prop :=
  ∃ (o : Bool) (p0 p1 p2 p3 : Int), e = .returned (.tuple #[rv p0 p1 p2 p3, .bool o]) ∧ (((p0, p1, p2, p3) : Q4), o) = m ∧ Below w.heap.size w w'

set_option maxRecDepth 100000 in
set_option maxHeartbeats 4000000 in
theorem raised_any (a b c d : Int) (e n : Nat) (w : World) (hx : rOk a b c d = true) (he : e ≤ n) (hn : n ≤ 1000) :
    Calls Try.prog 134 #[dv a b c d (e : Int), .int .i64 (n : Int)] w fun r w' => RaOut w (raiseN (n - e) (a, b, c, d)) r w' := by
  have Hx := Lib.hid hx
  clear hx
  go_enter Try.func134, Try.ntmps134
  go_wp2_with fail
  generalize hW0 : ((w.alloc (.cells #[.int .i64 a, .int .i64 b, .int .i64 c, .int .i64 d, .int .i64 (e : Int)] 52)).alloc (.cells #[.int .i64 0, .int .i64 0, .int .i64 0, .int .i64 0] 38)).alloc (.cells #[.int .i64 a, .int .i64 b, .int .i64 c, .int .i64 d] 38) = W0
  have B0 : Below w.heap.size w W0 := by rw [← hW0]; clear hW0; go_grown
  have R : Hid (Blk4 W0 (w.heap.size + 1) (0, 0, 0, 0)) := by rw [← hW0]; exact (Blk4.new 0 0 0 0 (by simp)).alloc _
  have N : Hid (Blk4 W0 (w.heap.size + 2) (a, b, c, d)) := by rw [← hW0]; exact Blk4.new a b c d (by simp)
  clear hW0
  go_loopw [7, 8] (fun o i wr => ∃ (t : Bool) (k : Nat) (y : Q4), o = .bool t ∧ i = .int .i64 k ∧ k ≤ n ∧ RInv n e (a, b, c, d) t k y ∧ Blk4 wr (w.heap.size + 1) (0, 0, 0, 0) ∧ Blk4 wr (w.heap.size + 2) y ∧ Below w.heap.size w wr) (fun _ i _ => n - (intOf i).toNat)
  case atStart => exact ⟨true, e, (a, b, c, d), rfl, rfl, he, ⟨fun _ => ⟨Hx.out, rfl⟩, fun h => by cases h⟩, R.out, N.out, B0⟩
  case round =>
    obtain ⟨t, k, y, rfl, rfl, hk, hinv, hr, hnm, hb⟩ := hrel
    have Hinv := Lib.hid hinv
    have Hr := Lib.hid hr
    have Hn := Lib.hid hnm
    obtain ⟨r0, r1, r2, r3⟩ := hr.cell
    obtain ⟨n0, n1, n2, n3⟩ := hnm.cell
    have hl1 := hr.lt
    have hl2 := hnm.lt
    have f1 := hr.frozen
    have f2 := hnm.frozen
    clear hinv hr hnm
    obtain ⟨y0, y1, y2, y3⟩ := y
    simp only at n0 n1 n2 n3
    cases t
    · by_cases hlt : k < n
      all_goals
        go_wp2
        refine bodyPost_ret (by simp [results, Try.results134, go_sem, r0, r1, r2, r3]) rfl ⟨false, y0, y1, y2, y3, rfl, (Hinv.out.2 rfl).symm, ?_⟩
        go_grown
    · by_cases hlt : k < n
      · go_wp2_with fail
        refine (implRootX (y0, y1, y2, y3) _).mono ?_
        rintro e2 w2 ⟨o, q0, q1, q2, q3, rfl, hE, b2⟩
        have HE := Lib.hid hE
        have Hr2 := Lib.hid (Hr.out.below b2 hl1)
        have hn2 := Hn.out.below b2 hl2
        obtain ⟨m0, m1, m2, m3⟩ := hn2.cell
        have g2 := hn2.frozen
        have Hn2 := Lib.hid hn2
        have B2 := Lib.hid (hb.trans (b2.mono hb.size))
        have hl3 := hn2.lt
        clear hE hn2 b2
        go_wp2
        go_roundw
        case rel =>
          refine ⟨o, k + 1, (q0, q1, q2, q3), rfl, by go_num, by omega, Hinv.out.step hlt HE.out, ?_, Hn2.out.set4 _ _ _ _, ?_⟩
          · exact (((Hr2.out.far (by simp) _).far (by simp) _).far (by simp) _).far (by simp) _
          · have B := B2.out
            go_grown
        case measure => simp [intOf]; omega
      · have hkn : k = n := by omega
        subst hkn
        go_wp2
        refine bodyPost_ret (by simp [results, Try.results134, go_sem, r0, r1, r2, r3]) rfl ⟨true, y0, y1, y2, y3, rfl, ?_, ?_⟩
        · have h := (Hinv.out.1 rfl).2
          rw [Nat.sub_self] at h
          exact h
        · go_grown
end Go.Proofs.Ytcmkkjdleihjfaa
