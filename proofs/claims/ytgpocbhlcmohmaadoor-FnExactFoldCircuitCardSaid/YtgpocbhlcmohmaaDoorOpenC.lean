/- Arguments of the laws, opened: a circuit by value. -/
import Derived.Test.YtgpocbhlcmohmaaDoorOpenM
import Derived.Test.YtgpocbhlcmohmaaDoorOpen2
import Derived.Test.YtgpocbhlcmohmaaDoorCx
namespace Go.Proofs.YtgpocbhlcmohmaaDoor
open Go.RowKit Go.WideShapes Go.ChangeShapes Go.ChangeAt Go.Joins

theorem unflatG : ∀ (n : Nat) (zs : List Int), zs.length = n * 3 → ∃ xs : List G3, xs.length = n ∧ flatG xs = zs
  | 0, zs, h => ⟨[], rfl, by
    match zs, h with
    | [], _ => rfl⟩
  | n + 1, zs, h => by
    match zs, h with
    | a :: b :: c :: r, h =>
      obtain ⟨xs, h1, h2⟩ := unflatG n r (by simp at h; omega)
      exact ⟨(a, b, c) :: xs, by simp [h1], by rw [← h2]; rfl⟩
    | [], h => simp at h
    | [_], h => simp at h; omega
    | [_, _], h => simp at h; omega

theorem Tryd.cellsLCircuit : Tryd.prog.cellsOf 54 = 2 := by kernel_rfl

theorem Tryd.cellsIntC : Tryd.prog.cellsOf 3 = 1 := by kernel_rfl

set_option maxRecDepth 100000 in
theorem trod_gate {H : Type} {enc : TypeId × Value → H} {W : World} {base : Nat} {sp : Nat → Bool} {hd : Bool} {fuel : Nat} {c0 c1 c2 : Value} {x : DataW H × List MemPlace}
    (h : DataW.trod enc Tryd.prog W base sp hd fuel 39 [c0, c1, c2] = some x) : ∃ a b c : Int, c0 = .int .i64 a ∧ c1 = .int .i64 b ∧ c2 = .int .i64 c := by
  obtain ⟨xs, n, _, hx, _, hlen, hg⟩ := DataW.trod_struct Tryd.underlying39 h
  have g0 := hg 0 _ rfl
  have g1 := hg 1 _ rfl
  have g2 := hg 2 _ rfl
  match xs, hlen with
  | [y0, y1, y2], _ =>
    simp [Tryd.cellsIntC] at g0 g1 g2
    obtain ⟨a, e0, _, _⟩ := DataW.trod_int Tryd.underlying3 g0
    obtain ⟨b, e1, _, _⟩ := DataW.trod_int Tryd.underlying3 g1
    obtain ⟨c, e2, _, _⟩ := DataW.trod_int Tryd.underlying3 g2
    simp at e0 e1 e2
    exact ⟨a, b, c, e0, e1, e2⟩

set_option maxRecDepth 100000 in
theorem open_circuit {H : Type} {enc : TypeId × Value → H} {W : World} {base : Nat} {v : Value} {d : DataW H} {p : List MemPlace} (hv : Value.okWide Tryd.prog W .any base 54 v)
    (h : DataW.Trod enc Tryd.prog W 0 (fun _ => true) true 54 v d p) : ∃ (q : Int) (A : Option Addr) (cap : Nat) (xs : List G3), v = cv q A xs.length cap ∧ xs.length ≤ maxLen ∧ FlatAt W A (flatG xs) := by
  obtain ⟨c0, c1, y0, y1, m, rfl, _, _, hy0, hy1⟩ := open_agg2 Tryd.underlying54 (by kernel_rfl) Tryd.cellsLCircuit hv h
  obtain ⟨a, e0, _, _⟩ := DataW.trod_int Tryd.underlying3 hy0
  obtain ⟨A, len, cap, zs, rfl, hz, hlen, hf⟩ := trod_slice_ints (size := 3) Tryd.underlying52 Tryd.cellsLGate hy1 (fun cs n y hl hy => by
    match cs, hl with
    | [d0, d1, d2], _ =>
      obtain ⟨a, b, c, rfl, rfl, rfl⟩ := trod_gate hy
      exact ⟨[a, b, c], rfl, rfl⟩)
  simp at e0
  subst e0
  obtain ⟨xs, rfl, rfl⟩ := unflatG len zs hz
  exact ⟨_, _, _, _, rfl, hlen, hf⟩
end Go.Proofs.YtgpocbhlcmohmaaDoor
