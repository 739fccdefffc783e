/- Slices of dyadic numbers: the laws' conversions, comparison of equals, marks. -/
import Derived.Test.YtlihnipbdckmkaaFlat
import Derived.Test.YtlihnipbdckmkaaDyadicConj
namespace Go.Proofs.Ytlihnipbdckmkaa
open Go.RowKit

abbrev D5 := Q4 × Int
abbrev dvD (x : D5) : Value := dv x.1.1 x.1.2.1 x.1.2.2.1 x.1.2.2.2 x.2
def flatD (xs : List D5) : List Int := xs.flatMap fun x => [x.1.1, x.1.2.1, x.1.2.2.1, x.1.2.2.2, x.2]
theorem flatD_len (xs : List D5) : (flatD xs).length = xs.length * 5 := by
  induction xs with
  | nil => rfl
  | cons x xs ih => show (_ ++ flatD xs).length = _; rw [List.length_append, ih]; simp; omega
theorem flatD_append (xs ys : List D5) : flatD (xs ++ ys) = flatD xs ++ flatD ys := by simp [flatD]
theorem flatD_at (xs : List D5) : ∀ (k : Nat) (x : D5), xs[k]? = some x →
    (flatD xs)[k * 5]? = some x.1.1 ∧ (flatD xs)[k * 5 + 1]? = some x.1.2.1 ∧ (flatD xs)[k * 5 + 2]? = some x.1.2.2.1 ∧ (flatD xs)[k * 5 + 3]? = some x.1.2.2.2 ∧ (flatD xs)[k * 5 + 4]? = some x.2 := by
  induction xs with
  | nil => intro k x h; simp at h
  | cons y xs ih =>
    intro k x h
    have e : flatD (y :: xs) = [y.1.1, y.1.2.1, y.1.2.2.1, y.1.2.2.2, y.2] ++ flatD xs := rfl
    match k, h with
    | 0, h => simp at h; subst h; exact ⟨rfl, rfl, rfl, rfl, rfl⟩
    | k + 1, h =>
      have := ih k x (by simpa using h)
      rw [e]
      refine ⟨?_, ?_, ?_, ?_, ?_⟩ <;> rw [List.getElem?_append_right (by simp; omega)] <;> simp only [List.length_cons, List.length_nil]
      · rw [show (k + 1) * 5 - (0 + 1 + 1 + 1 + 1 + 1) = k * 5 from by omega]; exact this.1
      · rw [show (k + 1) * 5 + 1 - (0 + 1 + 1 + 1 + 1 + 1) = k * 5 + 1 from by omega]; exact this.2.1
      · rw [show (k + 1) * 5 + 2 - (0 + 1 + 1 + 1 + 1 + 1) = k * 5 + 2 from by omega]; exact this.2.2.1
      · rw [show (k + 1) * 5 + 3 - (0 + 1 + 1 + 1 + 1 + 1) = k * 5 + 3 from by omega]; exact this.2.2.2.1
      · rw [show (k + 1) * 5 + 4 - (0 + 1 + 1 + 1 + 1 + 1) = k * 5 + 4 from by omega]; exact this.2.2.2.2
/-- five cells of an element -/
def Five (w : World) (b o : Nat) (x : D5) : Prop :=
  w.cell? ⟨b, o, none⟩ = some (.int .i64 x.1.1) ∧ w.cell? ⟨b, o + 1, none⟩ = some (.int .i64 x.1.2.1) ∧ w.cell? ⟨b, o + 2, none⟩ = some (.int .i64 x.1.2.2.1) ∧ w.cell? ⟨b, o + 3, none⟩ = some (.int .i64 x.1.2.2.2) ∧ w.cell? ⟨b, o + 4, none⟩ = some (.int .i64 x.2)
theorem FlatAt.cell {w : World} {b off : Nat} {zs : List Int} (h : FlatAt w (some ⟨b, off, none⟩) zs) {j : Nat} {z : Int} (hz : zs[j]? = some z) : w.cell? ⟨b, off + j, none⟩ = some (.int .i64 z) := by
  obtain ⟨b', off', e, _, h3⟩ := h j z hz
  cases e
  exact h3
theorem FlatAt.five {w : World} {A : Option Addr} {xs : List D5} (h : FlatAt w A (flatD xs)) {k : Nat} {x : D5} (hk : xs[k]? = some x) :
    ∃ b off, A = some ⟨b, off, none⟩ ∧ b < w.heap.size ∧ Five w b (off + k * 5) x := by
  obtain ⟨h0, h1, h2, h3, h4⟩ := flatD_at xs k x hk
  obtain ⟨b, off, rfl, hlt, _⟩ := h _ _ h0
  exact ⟨b, off, rfl, hlt, h.cell h0, h.cell h1, h.cell h2, h.cell h3, h.cell h4⟩
theorem Five.below {B : Nat} {w w' : World} {b o : Nat} {x : D5} (h : Five w b o x) (hb : Below B w w') (hB : b < B) : Five w' b o x :=
  ⟨(hb.cell (p := ⟨b, _, none⟩) hB).trans h.1, (hb.cell (p := ⟨b, _, none⟩) hB).trans h.2.1, (hb.cell (p := ⟨b, _, none⟩) hB).trans h.2.2.1, (hb.cell (p := ⟨b, _, none⟩) hB).trans h.2.2.2.1, (hb.cell (p := ⟨b, _, none⟩) hB).trans h.2.2.2.2⟩
/-- five stores bring a list of numbers one element nearer to another -/
def set5 (zs : List Int) (o : Nat) (a b c d e : Int) : List Int := ((((zs.set o a).set (o + 1) b).set (o + 2) c).set (o + 3) d).set (o + 4) e
theorem set5_len (zs : List Int) (o : Nat) (a b c d e : Int) : (set5 zs o a b c d e).length = zs.length := by simp [set5]
theorem set5_step {zs ys : List Int} {k n : Nat} {a b c d e : Int} (hl : zs.length = n * 5) (hk : k < n) (h : ∀ j, j < k * 5 → zs[j]? = ys[j]?) (h0 : ys[k * 5]? = some a) (h1 : ys[k * 5 + 1]? = some b)
    (h2 : ys[k * 5 + 2]? = some c) (h3 : ys[k * 5 + 3]? = some d) (h4 : ys[k * 5 + 4]? = some e) : ∀ j, j < (k + 1) * 5 → (set5 zs (k * 5) a b c d e)[j]? = ys[j]? := by
  intro j hj
  have hl0 : k * 5 + 4 < zs.length := by omega
  unfold set5
  simp only [List.getElem?_set, List.length_set]
  rcases Nat.lt_or_ge j (k * 5) with hlt | hge
  · rw [if_neg (by omega), if_neg (by omega), if_neg (by omega), if_neg (by omega), if_neg (by omega)]
    exact h j hlt
  · have hcase : j = k * 5 ∨ j = k * 5 + 1 ∨ j = k * 5 + 2 ∨ j = k * 5 + 3 ∨ j = k * 5 + 4 := by omega
    rcases hcase with rfl | rfl | rfl | rfl | rfl
    · rw [if_neg (by omega), if_neg (by omega), if_neg (by omega), if_neg (by omega), if_pos rfl, if_pos (by omega), h0]
    · rw [if_neg (by omega), if_neg (by omega), if_neg (by omega), if_pos rfl, if_pos (by omega), h1]
    · rw [if_neg (by omega), if_neg (by omega), if_pos rfl, if_pos (by omega), h2]
    · rw [if_neg (by omega), if_pos rfl, if_pos (by omega), h3]
    · rw [if_pos rfl, if_pos (by omega), h4]
theorem eq_of_at {zs ys : List Int} {n : Nat} (hz : zs.length = n) (hy : ys.length = n) (h : ∀ j, j < n → zs[j]? = ys[j]?) : zs = ys := by
  apply List.ext_getElem?
  intro i
  rcases Nat.lt_or_ge i n with h1 | h1
  · exact h i h1
  · rw [List.getElem?_eq_none (by omega), List.getElem?_eq_none (by omega)]
theorem FlatIn.set5 {w : World} {g : Nat} {zs : List Int} {lo hi : Nat} (h : FlatIn w (some ⟨g, 0, none⟩) zs lo hi) (o : Nat) (a b c d e : Int) :
    FlatIn (((((w.setCell ⟨g, o, none⟩ (.int .i64 a)).setCell ⟨g, o + 1, none⟩ (.int .i64 b)).setCell ⟨g, o + 2, none⟩ (.int .i64 c)).setCell ⟨g, o + 3, none⟩ (.int .i64 d)).setCell ⟨g, o + 4, none⟩ (.int .i64 e)) (some ⟨g, 0, none⟩) (set5 zs o a b c d e) lo hi :=
  ((((h.set o a).set (o + 1) b).set (o + 2) c).set (o + 3) d).set (o + 4) e
theorem Touch.set5 {lo hi : Nat} {w0 w : World} {g : Nat} (h : Touch lo hi w0 w) (h1 : lo ≤ g) (h2 : g < hi) (o : Nat) (a b c d e : Value) :
    Touch lo hi w0 (((((w.setCell ⟨g, o, none⟩ a).setCell ⟨g, o + 1, none⟩ b).setCell ⟨g, o + 2, none⟩ c).setCell ⟨g, o + 3, none⟩ d).setCell ⟨g, o + 4, none⟩ e) :=
  ((((h.set h1 h2 a).set h1 h2 b).set h1 h2 c).set h1 h2 d).set h1 h2 e

theorem FlatIn.slots5 {w : World} {g : Nat} {zs : List Int} {lo hi k n : Nat} (h : FlatIn w (some ⟨g, 0, none⟩) zs lo hi) (hl : zs.length = n * 5) (hk : k < n) :
    (∃ z0 z1 z2 z3 z4 : Int, Five w g (k * 5) ((z0, z1, z2, z3), z4)) ∧ (∀ o, w.frozen? ⟨g, o, none⟩ = false) ∧ lo ≤ g ∧ g < hi := by
  obtain ⟨g', e, h1, h2, h3⟩ := h.1 _ rfl
  cases e
  have c := fun j (hj : j < zs.length) => h.2.2.cell (List.getElem?_eq_getElem hj)
  simp only [Nat.zero_add] at c
  exact ⟨⟨_, _, _, _, _, c (k * 5) (by omega), c (k * 5 + 1) (by omega), c (k * 5 + 2) (by omega), c (k * 5 + 3) (by omega), c (k * 5 + 4) (by omega)⟩, h3, h1, h2⟩

theorem Try.infoDyadic : (Try.prog.info? 60).map (fun i => (i.zero, i.size, i.bytes)) = some (some (dv 0 0 0 0 0), 5, 40) := by kernel_rfl

theorem made_zero5 (n : Nat) : (madeCells #[Value.int .i64 0, Value.int .i64 0, Value.int .i64 0, Value.int .i64 0, Value.int .i64 0] (n * 5)).toList = (List.replicate (n * 5) (0 : Int)).map (Value.int .i64) := by
  unfold madeCells
  rw [List.map_replicate, Array.toList_map, List.eq_replicate_iff]
  refine ⟨by simp, fun v hv => ?_⟩
  obtain ⟨i, _, rfl⟩ := List.mem_map.1 hv
  have : i % 5 < 5 := Nat.mod_lt _ (by omega)
  show (#[.int .i64 0, .int .i64 0, .int .i64 0, .int .i64 0, .int .i64 0] : Array Value)[i % 5]! = _
  match i % 5, this with
  | 0, _ => rfl
  | 1, _ => rfl
  | 2, _ => rfl
  | 3, _ => rfl
  | 4, _ => rfl

theorem sameD (x : D5) : ((x.1.1 == x.1.1 && x.1.2.1 == x.1.2.1 && x.1.2.2.1 == x.1.2.2.1 && x.1.2.2.2 == x.1.2.2.2) && x.2 == x.2) = true := by simp
theorem eqDyadic_same (x : D5) (w : World) :
    Calls Try.prog 64 #[dvD x, dvD x] w fun r w' => r = .returned (.bool true) ∧ Below w.heap.size w w' := by
  have h := eqDyadic_any x.1.1 x.1.2.1 x.1.2.2.1 x.1.2.2.2 x.2 x.1.1 x.1.2.1 x.1.2.2.1 x.1.2.2.2 x.2 w
  rw [sameD] at h
  exact h

set_option maxHeartbeats 1000000 in
theorem eqDyadicS_same (A A' : Option Addr) (cap cap' : Nat) (xs : List D5) (w : World) (hn : xs.length ≤ 9223372036854775807) (hx : Hid (FlatAt w A (flatD xs))) (hy : Hid (FlatAt w A' (flatD xs))) :
    Calls Try.prog 37 #[.slice A xs.length cap, .slice A' xs.length cap'] w fun e w' => e = .returned (.bool true) ∧ Below w.heap.size w w' := by
  go_enter Try.func37, Try.ntmps37
  go_wp2_with fail
  go_loopw [5] (fun i wr => ∃ k : Nat, i = .int .i64 k ∧ k ≤ xs.length ∧ Below w.heap.size w wr) (fun i _ => xs.length - (intOf i).toNat)
  case atStart => exact ⟨0, rfl, Nat.zero_le _, Below.refl _ _⟩
  case round =>
    obtain ⟨k, rfl, hk, hb⟩ := hrel
    by_cases hlt : k < xs.length
    · obtain ⟨x, hkx⟩ : ∃ x, xs[k]? = some x := ⟨_, List.getElem?_eq_getElem hlt⟩
      obtain ⟨b, off, rfl, hbl, hc⟩ := hx.out.five hkx
      obtain ⟨b', off', rfl, hbl', hc'⟩ := hy.out.five hkx
      clear hkx
      obtain ⟨c0, c1, c2, c3, c4⟩ := hc.below hb hbl
      obtain ⟨c0', c1', c2', c3', c4'⟩ := hc'.below hb hbl'
      clear hc hc'
      have zb := hb.size
      have y1 : b < wr.heap.size := by omega
      have y2 : b' < wr.heap.size := by omega
      go_wp2_with fail
      go_region_held3 (fun w' => (∀ b o, b < wr.heap.size → w'.cell? ⟨b, o, none⟩ = wr.cell? ⟨b, o, none⟩) ∧ Below wr.heap.size wr w') ((refine SB_mk ?_; go_grown)) (first | (go_at_call 64; refine (eqDyadic_same x _).mono ?_; rintro e wA ⟨rfl, bA⟩; obtain ⟨bAc, bAf⟩ := bcell bA; (try with_reducible have yA := lt_size bA); (try with_reducible have yA := lt_sizeD bA); (try with_reducible have yB := Nat.lt_of_lt_of_le (by assumption) bA.size); have sA := (SB_step (W := wr) (by with_reducible assumption) bA).2; have zA := sA.size))
      all_goals
        go_wp2
        go_roundw
        case rel => exact ⟨k + 1, by go_num, by omega, hb.trans (sA.mono zb)⟩
        case measure => simp [intOf]; omega
    · go_wp2
      go_ret
      exact ⟨rfl, hb⟩
/-- the numbers from k on -/
def marks (k m : Nat) : List Int := (List.range m).map fun j => ((k + j : Nat) : Int)
theorem marks_len (k m : Nat) : (marks k m).length = m := by simp [marks]
theorem marks_at {k m j : Nat} (h : j < m) : (marks k m)[j]? = some ((k + j : Nat) : Int) := by simp [marks, h]

set_option maxRecDepth 100000 in
set_option maxHeartbeats 2000000 in
theorem markDyadicS_any (A : Option Addr) (cap n k0 : Nat) (zs0 : List Int) (lo hi : Nat) (w : World) (hn : n ≤ 1048576) (hk0 : k0 ≤ 1000000000) (hl0 : zs0.length = n * 5) (hx : Hid (FlatIn w A zs0 lo hi)) :
    Calls Try.prog 38 #[.slice A n cap, .int .i64 (k0 : Int)] w fun e w' => e = .returned (.int .i64 ((k0 + n * 5 : Nat) : Int)) ∧ FlatIn w' A (marks k0 (n * 5)) lo hi ∧ Touch lo hi w w' := by
  go_enter Try.func38, Try.ntmps38
  go_wp2_with fail
  go_loopw [1, 5] (fun m i wr => ∃ (k : Nat) (zs : List Int), i = .int .i64 k ∧ k ≤ n ∧ m = .int .i64 ((k0 + k * 5 : Nat) : Int) ∧ zs.length = n * 5 ∧ (∀ j, j < k * 5 → zs[j]? = (marks k0 (n * 5))[j]?) ∧ FlatIn wr A zs lo hi ∧ Touch lo hi w wr) (fun _ i _ => n - (intOf i).toNat)
  case atStart => exact ⟨0, zs0, rfl, Nat.zero_le _, rfl, hl0, fun j hj => by omega, hx.out, Touch.refl _ _ _⟩
  case round =>
    obtain ⟨k, zs, rfl, hk, rfl, hl, hz, hf, ht⟩ := hrel
    have Hf := Lib.hid hf
    have Hz := Lib.hid hz
    have Ht := Lib.hid ht
    clear hf hz ht
    by_cases hlt : k < n
    · obtain ⟨g, rfl⟩ : ∃ g, A = some ⟨g, 0, none⟩ := by
        obtain ⟨b, off, rfl, _, _⟩ := Hf.out.2.2 (k * 5) (zs[k * 5]'(by omega)) (List.getElem?_eq_getElem _)
        obtain ⟨g, e, _⟩ := Hf.out.1 _ rfl
        exact ⟨g, by rw [e]⟩
      obtain ⟨⟨z0, z1, z2, z3, z4, d0, d1, d2, d3, d4⟩, f2, hg1, hg2⟩ := Hf.out.slots5 hl hlt
      go_wp2
      go_roundw
      case rel =>
        refine ⟨k + 1, set5 zs (k * 5) _ _ _ _ _, by go_num, by omega, by go_num, by rw [set5_len]; exact hl, set5_step hl hlt Hz.out (marks_at (by omega)) (marks_at (by omega)) (marks_at (by omega)) (marks_at (by omega)) (marks_at (by omega)), ?_, Ht.out.set5 hg1 hg2 _ _ _ _ _ _⟩
        exact Hf.out.set5 _ _ _ _ _ _
      case measure => simp [intOf]; omega
    · go_wp2
      go_ret
      have hkn : k = n := by omega
      subst hkn
      have hzs : zs = marks k0 (k * 5) := eq_of_at hl (marks_len _ _) Hz.out
      rw [hzs] at Hf
      exact ⟨rfl, Hf.out, Ht.out⟩
end Go.Proofs.Ytlihnipbdckmkaa
