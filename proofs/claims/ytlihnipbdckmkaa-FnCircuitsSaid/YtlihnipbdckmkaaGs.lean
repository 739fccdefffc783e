/- Slices of gates: the laws' conversions, comparison of equals, marks. -/
import Derived.Test.YtlihnipbdckmkaaDs
import Derived.Test.YtlihnipbdckmkaaGate
namespace Go.Proofs.Ytlihnipbdckmkaa
open Go.RowKit

abbrev G3 := Int × Int × Int
abbrev gvG (x : G3) : Value := tv x.1 x.2.1 x.2.2
def flatG (xs : List G3) : List Int := xs.flatMap fun x => [x.1, x.2.1, x.2.2]
theorem flatG_len (xs : List G3) : (flatG xs).length = xs.length * 3 := by
  induction xs with
  | nil => rfl
  | cons x xs ih => show (_ ++ flatG xs).length = _; rw [List.length_append, ih]; simp; omega
theorem flatG_append (xs ys : List G3) : flatG (xs ++ ys) = flatG xs ++ flatG ys := by simp [flatG]
theorem flatG_at (xs : List G3) : ∀ (k : Nat) (x : G3), xs[k]? = some x →
    (flatG xs)[k * 3]? = some x.1 ∧ (flatG xs)[k * 3 + 1]? = some x.2.1 ∧ (flatG xs)[k * 3 + 2]? = some x.2.2 := by
  induction xs with
  | nil => intro k x h; simp at h
  | cons y xs ih =>
    intro k x h
    have e : flatG (y :: xs) = [y.1, y.2.1, y.2.2] ++ flatG xs := rfl
    match k, h with
    | 0, h => simp at h; subst h; exact ⟨rfl, rfl, rfl⟩
    | k + 1, h =>
      have := ih k x (by simpa using h)
      rw [e]
      refine ⟨?_, ?_, ?_⟩ <;> rw [List.getElem?_append_right (by simp; omega)] <;> simp only [List.length_cons, List.length_nil]
      · rw [show (k + 1) * 3 - (0 + 1 + 1 + 1) = k * 3 from by omega]; exact this.1
      · rw [show (k + 1) * 3 + 1 - (0 + 1 + 1 + 1) = k * 3 + 1 from by omega]; exact this.2.1
      · rw [show (k + 1) * 3 + 2 - (0 + 1 + 1 + 1) = k * 3 + 2 from by omega]; exact this.2.2
/-- three cells of an element -/
def Three (w : World) (b o : Nat) (x : G3) : Prop :=
  w.cell? ⟨b, o, none⟩ = some (.int .i64 x.1) ∧ w.cell? ⟨b, o + 1, none⟩ = some (.int .i64 x.2.1) ∧ w.cell? ⟨b, o + 2, none⟩ = some (.int .i64 x.2.2)
theorem FlatAt.three {w : World} {A : Option Addr} {xs : List G3} (h : FlatAt w A (flatG xs)) {k : Nat} {x : G3} (hk : xs[k]? = some x) :
    ∃ b off, A = some ⟨b, off, none⟩ ∧ b < w.heap.size ∧ Three w b (off + k * 3) x := by
  obtain ⟨h0, h1, h2⟩ := flatG_at xs k x hk
  obtain ⟨b, off, rfl, hlt, _⟩ := h _ _ h0
  exact ⟨b, off, rfl, hlt, h.cell h0, h.cell h1, h.cell h2⟩
theorem Three.below {B : Nat} {w w' : World} {b o : Nat} {x : G3} (h : Three w b o x) (hb : Below B w w') (hB : b < B) : Three w' b o x :=
  ⟨(hb.cell (p := ⟨b, _, none⟩) hB).trans h.1, (hb.cell (p := ⟨b, _, none⟩) hB).trans h.2.1, (hb.cell (p := ⟨b, _, none⟩) hB).trans h.2.2⟩
/-- three stores bring a list of numbers one element nearer to another -/
def set3 (zs : List Int) (o : Nat) (a b c : Int) : List Int := ((zs.set o a).set (o + 1) b).set (o + 2) c
theorem set3_len (zs : List Int) (o : Nat) (a b c : Int) : (set3 zs o a b c).length = zs.length := by simp [set3]
theorem set3_step {zs ys : List Int} {k n : Nat} {a b c : Int} (hl : zs.length = n * 3) (hk : k < n) (h : ∀ j, j < k * 3 → zs[j]? = ys[j]?) (h0 : ys[k * 3]? = some a) (h1 : ys[k * 3 + 1]? = some b)
    (h2 : ys[k * 3 + 2]? = some c) : ∀ j, j < (k + 1) * 3 → (set3 zs (k * 3) a b c)[j]? = ys[j]? := by
  intro j hj
  have hl0 : k * 3 + 2 < zs.length := by omega
  unfold set3
  simp only [List.getElem?_set, List.length_set]
  rcases Nat.lt_or_ge j (k * 3) with hlt | hge
  · rw [if_neg (by omega), if_neg (by omega), if_neg (by omega)]
    exact h j hlt
  · have hcase : j = k * 3 ∨ j = k * 3 + 1 ∨ j = k * 3 + 2 := by omega
    rcases hcase with rfl | rfl | rfl
    · rw [if_neg (by omega), if_neg (by omega), if_pos rfl, if_pos (by omega), h0]
    · rw [if_neg (by omega), if_pos rfl, if_pos (by omega), h1]
    · rw [if_pos rfl, if_pos (by omega), h2]
theorem FlatIn.set3 {w : World} {g : Nat} {zs : List Int} {lo hi : Nat} (h : FlatIn w (some ⟨g, 0, none⟩) zs lo hi) (o : Nat) (a b c : Int) :
    FlatIn (((w.setCell ⟨g, o, none⟩ (.int .i64 a)).setCell ⟨g, o + 1, none⟩ (.int .i64 b)).setCell ⟨g, o + 2, none⟩ (.int .i64 c)) (some ⟨g, 0, none⟩) (set3 zs o a b c) lo hi :=
  ((h.set o a).set (o + 1) b).set (o + 2) c
theorem Touch.set3 {lo hi : Nat} {w0 w : World} {g : Nat} (h : Touch lo hi w0 w) (h1 : lo ≤ g) (h2 : g < hi) (o : Nat) (a b c : Value) :
    Touch lo hi w0 (((w.setCell ⟨g, o, none⟩ a).setCell ⟨g, o + 1, none⟩ b).setCell ⟨g, o + 2, none⟩ c) :=
  ((h.set h1 h2 a).set h1 h2 b).set h1 h2 c
theorem FlatIn.slots3 {w : World} {g : Nat} {zs : List Int} {lo hi k n : Nat} (h : FlatIn w (some ⟨g, 0, none⟩) zs lo hi) (hl : zs.length = n * 3) (hk : k < n) :
    (∃ z0 z1 z2 : Int, Three w g (k * 3) (z0, z1, z2)) ∧ (∀ o, w.frozen? ⟨g, o, none⟩ = false) ∧ lo ≤ g ∧ g < hi := by
  obtain ⟨g', e, h1, h2, h3⟩ := h.1 _ rfl
  cases e
  have c := fun j (hj : j < zs.length) => h.2.2.cell (List.getElem?_eq_getElem hj)
  simp only [Nat.zero_add] at c
  exact ⟨⟨_, _, _, c (k * 3) (by omega), c (k * 3 + 1) (by omega), c (k * 3 + 2) (by omega)⟩, h3, h1, h2⟩

theorem Try.infoGate : (Try.prog.info? 29).map (fun i => (i.zero, i.size, i.bytes)) = some (some (tv 0 0 0), 3, 24) := by kernel_rfl

theorem made_zero3 (n : Nat) : (madeCells #[Value.int .i64 0, Value.int .i64 0, Value.int .i64 0] (n * 3)).toList = (List.replicate (n * 3) (0 : Int)).map (Value.int .i64) := by
  unfold madeCells
  rw [List.map_replicate, Array.toList_map, List.eq_replicate_iff]
  refine ⟨by simp, fun v hv => ?_⟩
  obtain ⟨i, _, rfl⟩ := List.mem_map.1 hv
  have : i % 3 < 3 := Nat.mod_lt _ (by omega)
  show (#[.int .i64 0, .int .i64 0, .int .i64 0] : Array Value)[i % 3]! = _
  match i % 3, this with
  | 0, _ => rfl
  | 1, _ => rfl
  | 2, _ => rfl

end Go.Proofs.Ytlihnipbdckmkaa
