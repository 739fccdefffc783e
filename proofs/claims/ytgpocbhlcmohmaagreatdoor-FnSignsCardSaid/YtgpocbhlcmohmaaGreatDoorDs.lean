/- Slices of dyadic numbers: the laws' conversions, comparison of equals, marks. -/
import Derived.Test.YtgpocbhlcmohmaaGreatDoorFlat
import Derived.Test.YtgpocbhlcmohmaaGreatDoorDyadicConj
namespace Go.Proofs.YtgpocbhlcmohmaaGreatDoor
open Go.RowKit

abbrev D5 := Q4 × Int
abbrev dvD (x : D5) : Value := dv x.1.1 x.1.2.1 x.1.2.2.1 x.1.2.2.2 x.2
def flatD (xs : List D5) : List Int := xs.flatMap fun x => [x.1.1, x.1.2.1, x.1.2.2.1, x.1.2.2.2, x.2]
theorem flatD_len (xs : List D5) : (flatD xs).length = xs.length * 5 := by
  induction xs with
  | nil => rfl
  | cons x xs ih => show (_ ++ flatD xs).length = _; rw [List.length_append, ih]; simp; omega
theorem flatD_append (xs ys : List D5) : flatD (xs ++ ys) = flatD xs ++ flatD ys := by simp [flatD]
theorem flatD_at (xs : List D5) : ∀ (k : Nat) (x : D5), xs[k]? = some x →
    (flatD xs)[k * 5]? = some x.1.1 ∧ (flatD xs)[k * 5 + 1]? = some x.1.2.1 ∧ (flatD xs)[k * 5 + 2]? = some x.1.2.2.1 ∧ (flatD xs)[k * 5 + 3]? = some x.1.2.2.2 ∧ (flatD xs)[k * 5 + 4]? = some x.2 := by
  induction xs with
  | nil => intro k x h; simp at h
  | cons y xs ih =>
    intro k x h
    have e : flatD (y :: xs) = [y.1.1, y.1.2.1, y.1.2.2.1, y.1.2.2.2, y.2] ++ flatD xs := rfl
    match k, h with
    | 0, h => simp at h; subst h; exact ⟨rfl, rfl, rfl, rfl, rfl⟩
    | k + 1, h =>
      have := ih k x (by simpa using h)
      rw [e]
      refine ⟨?_, ?_, ?_, ?_, ?_⟩ <;> rw [List.getElem?_append_right (by simp; omega)] <;> simp only [List.length_cons, List.length_nil]
      · rw [show (k + 1) * 5 - (0 + 1 + 1 + 1 + 1 + 1) = k * 5 from by omega]; exact this.1
      · rw [show (k + 1) * 5 + 1 - (0 + 1 + 1 + 1 + 1 + 1) = k * 5 + 1 from by omega]; exact this.2.1
      · rw [show (k + 1) * 5 + 2 - (0 + 1 + 1 + 1 + 1 + 1) = k * 5 + 2 from by omega]; exact this.2.2.1
      · rw [show (k + 1) * 5 + 3 - (0 + 1 + 1 + 1 + 1 + 1) = k * 5 + 3 from by omega]; exact this.2.2.2.1
      · rw [show (k + 1) * 5 + 4 - (0 + 1 + 1 + 1 + 1 + 1) = k * 5 + 4 from by omega]; exact this.2.2.2.2
/-- five cells of an element -/
def Five (w : World) (b o : Nat) (x : D5) : Prop :=
  w.cell? ⟨b, o, none⟩ = some (.int .i64 x.1.1) ∧ w.cell? ⟨b, o + 1, none⟩ = some (.int .i64 x.1.2.1) ∧ w.cell? ⟨b, o + 2, none⟩ = some (.int .i64 x.1.2.2.1) ∧ w.cell? ⟨b, o + 3, none⟩ = some (.int .i64 x.1.2.2.2) ∧ w.cell? ⟨b, o + 4, none⟩ = some (.int .i64 x.2)
theorem FlatAt.cell {w : World} {b off : Nat} {zs : List Int} (h : FlatAt w (some ⟨b, off, none⟩) zs) {j : Nat} {z : Int} (hz : zs[j]? = some z) : w.cell? ⟨b, off + j, none⟩ = some (.int .i64 z) := by
  obtain ⟨b', off', e, _, h3⟩ := h j z hz
  cases e
  exact h3
theorem FlatAt.five {w : World} {A : Option Addr} {xs : List D5} (h : FlatAt w A (flatD xs)) {k : Nat} {x : D5} (hk : xs[k]? = some x) :
    ∃ b off, A = some ⟨b, off, none⟩ ∧ b < w.heap.size ∧ Five w b (off + k * 5) x := by
  obtain ⟨h0, h1, h2, h3, h4⟩ := flatD_at xs k x hk
  obtain ⟨b, off, rfl, hlt, _⟩ := h _ _ h0
  exact ⟨b, off, rfl, hlt, h.cell h0, h.cell h1, h.cell h2, h.cell h3, h.cell h4⟩
theorem Five.below {B : Nat} {w w' : World} {b o : Nat} {x : D5} (h : Five w b o x) (hb : Below B w w') (hB : b < B) : Five w' b o x :=
  ⟨(hb.cell (p := ⟨b, _, none⟩) hB).trans h.1, (hb.cell (p := ⟨b, _, none⟩) hB).trans h.2.1, (hb.cell (p := ⟨b, _, none⟩) hB).trans h.2.2.1, (hb.cell (p := ⟨b, _, none⟩) hB).trans h.2.2.2.1, (hb.cell (p := ⟨b, _, none⟩) hB).trans h.2.2.2.2⟩
/-- five stores bring a list of numbers one element nearer to another -/
def set5 (zs : List Int) (o : Nat) (a b c d e : Int) : List Int := ((((zs.set o a).set (o + 1) b).set (o + 2) c).set (o + 3) d).set (o + 4) e
theorem set5_len (zs : List Int) (o : Nat) (a b c d e : Int) : (set5 zs o a b c d e).length = zs.length := by simp [set5]
theorem set5_step {zs ys : List Int} {k n : Nat} {a b c d e : Int} (hl : zs.length = n * 5) (hk : k < n) (h : ∀ j, j < k * 5 → zs[j]? = ys[j]?) (h0 : ys[k * 5]? = some a) (h1 : ys[k * 5 + 1]? = some b)
    (h2 : ys[k * 5 + 2]? = some c) (h3 : ys[k * 5 + 3]? = some d) (h4 : ys[k * 5 + 4]? = some e) : ∀ j, j < (k + 1) * 5 → (set5 zs (k * 5) a b c d e)[j]? = ys[j]? := by
  intro j hj
  have hl0 : k * 5 + 4 < zs.length := by omega
  unfold set5
  simp only [List.getElem?_set, List.length_set]
  rcases Nat.lt_or_ge j (k * 5) with hlt | hge
  · rw [if_neg (by omega), if_neg (by omega), if_neg (by omega), if_neg (by omega), if_neg (by omega)]
    exact h j hlt
  · have hcase : j = k * 5 ∨ j = k * 5 + 1 ∨ j = k * 5 + 2 ∨ j = k * 5 + 3 ∨ j = k * 5 + 4 := by omega
    rcases hcase with rfl | rfl | rfl | rfl | rfl
    · rw [if_neg (by omega), if_neg (by omega), if_neg (by omega), if_neg (by omega), if_pos rfl, if_pos (by omega), h0]
    · rw [if_neg (by omega), if_neg (by omega), if_neg (by omega), if_pos rfl, if_pos (by omega), h1]
    · rw [if_neg (by omega), if_neg (by omega), if_pos rfl, if_pos (by omega), h2]
    · rw [if_neg (by omega), if_pos rfl, if_pos (by omega), h3]
    · rw [if_pos rfl, if_pos (by omega), h4]
theorem eq_of_at {zs ys : List Int} {n : Nat} (hz : zs.length = n) (hy : ys.length = n) (h : ∀ j, j < n → zs[j]? = ys[j]?) : zs = ys := by
  apply List.ext_getElem?
  intro i
  rcases Nat.lt_or_ge i n with h1 | h1
  · exact h i h1
  · rw [List.getElem?_eq_none (by omega), List.getElem?_eq_none (by omega)]
theorem FlatIn.set5 {w : World} {g : Nat} {zs : List Int} {lo hi : Nat} (h : FlatIn w (some ⟨g, 0, none⟩) zs lo hi) (o : Nat) (a b c d e : Int) :
    FlatIn (((((w.setCell ⟨g, o, none⟩ (.int .i64 a)).setCell ⟨g, o + 1, none⟩ (.int .i64 b)).setCell ⟨g, o + 2, none⟩ (.int .i64 c)).setCell ⟨g, o + 3, none⟩ (.int .i64 d)).setCell ⟨g, o + 4, none⟩ (.int .i64 e)) (some ⟨g, 0, none⟩) (set5 zs o a b c d e) lo hi :=
  ((((h.set o a).set (o + 1) b).set (o + 2) c).set (o + 3) d).set (o + 4) e
theorem Touch.set5 {lo hi : Nat} {w0 w : World} {g : Nat} (h : Touch lo hi w0 w) (h1 : lo ≤ g) (h2 : g < hi) (o : Nat) (a b c d e : Value) :
    Touch lo hi w0 (((((w.setCell ⟨g, o, none⟩ a).setCell ⟨g, o + 1, none⟩ b).setCell ⟨g, o + 2, none⟩ c).setCell ⟨g, o + 3, none⟩ d).setCell ⟨g, o + 4, none⟩ e) :=
  ((((h.set h1 h2 a).set h1 h2 b).set h1 h2 c).set h1 h2 d).set h1 h2 e

theorem FlatIn.slots5 {w : World} {g : Nat} {zs : List Int} {lo hi k n : Nat} (h : FlatIn w (some ⟨g, 0, none⟩) zs lo hi) (hl : zs.length = n * 5) (hk : k < n) :
    (∃ z0 z1 z2 z3 z4 : Int, Five w g (k * 5) ((z0, z1, z2, z3), z4)) ∧ (∀ o, w.frozen? ⟨g, o, none⟩ = false) ∧ lo ≤ g ∧ g < hi := by
  obtain ⟨g', e, h1, h2, h3⟩ := h.1 _ rfl
  cases e
  have c := fun j (hj : j < zs.length) => h.2.2.cell (List.getElem?_eq_getElem hj)
  simp only [Nat.zero_add] at c
  exact ⟨⟨_, _, _, _, _, c (k * 5) (by omega), c (k * 5 + 1) (by omega), c (k * 5 + 2) (by omega), c (k * 5 + 3) (by omega), c (k * 5 + 4) (by omega)⟩, h3, h1, h2⟩

theorem Tryz.infoDyadic : (Tryz.prog.info? 31).map (fun i => (i.zero, i.size, i.bytes)) = some (some (dv 0 0 0 0 0), 5, 40) := by kernel_rfl

theorem made_zero5 (n : Nat) : (madeCells #[Value.int .i64 0, Value.int .i64 0, Value.int .i64 0, Value.int .i64 0, Value.int .i64 0] (n * 5)).toList = (List.replicate (n * 5) (0 : Int)).map (Value.int .i64) := by
  unfold madeCells
  rw [List.map_replicate, Array.toList_map, List.eq_replicate_iff]
  refine ⟨by simp, fun v hv => ?_⟩
  obtain ⟨i, _, rfl⟩ := List.mem_map.1 hv
  have : i % 5 < 5 := Nat.mod_lt _ (by omega)
  show (#[.int .i64 0, .int .i64 0, .int .i64 0, .int .i64 0, .int .i64 0] : Array Value)[i % 5]! = _
  match i % 5, this with
  | 0, _ => rfl
  | 1, _ => rfl
  | 2, _ => rfl
  | 3, _ => rfl
  | 4, _ => rfl

end Go.Proofs.YtgpocbhlcmohmaaGreatDoor
