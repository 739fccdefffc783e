/- Slices of gates: the laws' conversions, comparison of equals, marks. -/
import Derived.Test.YtgpocbhlcmohmaaDoorDs
import Derived.Test.YtgpocbhlcmohmaaDoorGate
namespace Go.Proofs.YtgpocbhlcmohmaaDoor
open Go.RowKit

abbrev G3 := Int × Int × Int
abbrev gvG (x : G3) : Value := tv x.1 x.2.1 x.2.2
def flatG (xs : List G3) : List Int := xs.flatMap fun x => [x.1, x.2.1, x.2.2]
theorem flatG_len (xs : List G3) : (flatG xs).length = xs.length * 3 := by
  induction xs with
  | nil => rfl
  | cons x xs ih => show (_ ++ flatG xs).length = _; rw [List.length_append, ih]; simp; omega
theorem flatG_append (xs ys : List G3) : flatG (xs ++ ys) = flatG xs ++ flatG ys := by simp [flatG]
theorem flatG_at (xs : List G3) : ∀ (k : Nat) (x : G3), xs[k]? = some x →
    (flatG xs)[k * 3]? = some x.1 ∧ (flatG xs)[k * 3 + 1]? = some x.2.1 ∧ (flatG xs)[k * 3 + 2]? = some x.2.2 := by
  induction xs with
  | nil => intro k x h; simp at h
  | cons y xs ih =>
    intro k x h
    have e : flatG (y :: xs) = [y.1, y.2.1, y.2.2] ++ flatG xs := rfl
    match k, h with
    | 0, h => simp at h; subst h; exact ⟨rfl, rfl, rfl⟩
    | k + 1, h =>
      have := ih k x (by simpa using h)
      rw [e]
      refine ⟨?_, ?_, ?_⟩ <;> rw [List.getElem?_append_right (by simp; omega)] <;> simp only [List.length_cons, List.length_nil]
      · rw [show (k + 1) * 3 - (0 + 1 + 1 + 1) = k * 3 from by omega]; exact this.1
      · rw [show (k + 1) * 3 + 1 - (0 + 1 + 1 + 1) = k * 3 + 1 from by omega]; exact this.2.1
      · rw [show (k + 1) * 3 + 2 - (0 + 1 + 1 + 1) = k * 3 + 2 from by omega]; exact this.2.2
/-- three cells of an element -/
def Three (w : World) (b o : Nat) (x : G3) : Prop :=
  w.cell? ⟨b, o, none⟩ = some (.int .i64 x.1) ∧ w.cell? ⟨b, o + 1, none⟩ = some (.int .i64 x.2.1) ∧ w.cell? ⟨b, o + 2, none⟩ = some (.int .i64 x.2.2)
theorem FlatAt.three {w : World} {A : Option Addr} {xs : List G3} (h : FlatAt w A (flatG xs)) {k : Nat} {x : G3} (hk : xs[k]? = some x) :
    ∃ b off, A = some ⟨b, off, none⟩ ∧ b < w.heap.size ∧ Three w b (off + k * 3) x := by
  obtain ⟨h0, h1, h2⟩ := flatG_at xs k x hk
  obtain ⟨b, off, rfl, hlt, _⟩ := h _ _ h0
  exact ⟨b, off, rfl, hlt, h.cell h0, h.cell h1, h.cell h2⟩
theorem Three.below {B : Nat} {w w' : World} {b o : Nat} {x : G3} (h : Three w b o x) (hb : Below B w w') (hB : b < B) : Three w' b o x :=
  ⟨(hb.cell (p := ⟨b, _, none⟩) hB).trans h.1, (hb.cell (p := ⟨b, _, none⟩) hB).trans h.2.1, (hb.cell (p := ⟨b, _, none⟩) hB).trans h.2.2⟩
/-- three stores bring a list of numbers one element nearer to another -/
def set3 (zs : List Int) (o : Nat) (a b c : Int) : List Int := ((zs.set o a).set (o + 1) b).set (o + 2) c
theorem set3_len (zs : List Int) (o : Nat) (a b c : Int) : (set3 zs o a b c).length = zs.length := by simp [set3]
theorem set3_step {zs ys : List Int} {k n : Nat} {a b c : Int} (hl : zs.length = n * 3) (hk : k < n) (h : ∀ j, j < k * 3 → zs[j]? = ys[j]?) (h0 : ys[k * 3]? = some a) (h1 : ys[k * 3 + 1]? = some b)
    (h2 : ys[k * 3 + 2]? = some c) : ∀ j, j < (k + 1) * 3 → (set3 zs (k * 3) a b c)[j]? = ys[j]? := by
  intro j hj
  have hl0 : k * 3 + 2 < zs.length := by omega
  unfold set3
  simp only [List.getElem?_set, List.length_set]
  rcases Nat.lt_or_ge j (k * 3) with hlt | hge
  · rw [if_neg (by omega), if_neg (by omega), if_neg (by omega)]
    exact h j hlt
  · have hcase : j = k * 3 ∨ j = k * 3 + 1 ∨ j = k * 3 + 2 := by omega
    rcases hcase with rfl | rfl | rfl
    · rw [if_neg (by omega), if_neg (by omega), if_pos rfl, if_pos (by omega), h0]
    · rw [if_neg (by omega), if_pos rfl, if_pos (by omega), h1]
    · rw [if_pos rfl, if_pos (by omega), h2]
theorem FlatIn.set3 {w : World} {g : Nat} {zs : List Int} {lo hi : Nat} (h : FlatIn w (some ⟨g, 0, none⟩) zs lo hi) (o : Nat) (a b c : Int) :
    FlatIn (((w.setCell ⟨g, o, none⟩ (.int .i64 a)).setCell ⟨g, o + 1, none⟩ (.int .i64 b)).setCell ⟨g, o + 2, none⟩ (.int .i64 c)) (some ⟨g, 0, none⟩) (set3 zs o a b c) lo hi :=
  ((h.set o a).set (o + 1) b).set (o + 2) c
theorem Touch.set3 {lo hi : Nat} {w0 w : World} {g : Nat} (h : Touch lo hi w0 w) (h1 : lo ≤ g) (h2 : g < hi) (o : Nat) (a b c : Value) :
    Touch lo hi w0 (((w.setCell ⟨g, o, none⟩ a).setCell ⟨g, o + 1, none⟩ b).setCell ⟨g, o + 2, none⟩ c) :=
  ((h.set h1 h2 a).set h1 h2 b).set h1 h2 c
theorem FlatIn.slots3 {w : World} {g : Nat} {zs : List Int} {lo hi k n : Nat} (h : FlatIn w (some ⟨g, 0, none⟩) zs lo hi) (hl : zs.length = n * 3) (hk : k < n) :
    (∃ z0 z1 z2 : Int, Three w g (k * 3) (z0, z1, z2)) ∧ (∀ o, w.frozen? ⟨g, o, none⟩ = false) ∧ lo ≤ g ∧ g < hi := by
  obtain ⟨g', e, h1, h2, h3⟩ := h.1 _ rfl
  cases e
  have c := fun j (hj : j < zs.length) => h.2.2.cell (List.getElem?_eq_getElem hj)
  simp only [Nat.zero_add] at c
  exact ⟨⟨_, _, _, c (k * 3) (by omega), c (k * 3 + 1) (by omega), c (k * 3 + 2) (by omega)⟩, h3, h1, h2⟩

theorem Tryd.infoGate : (Tryd.prog.info? 41).map (fun i => (i.zero, i.size, i.bytes)) = some (some (tv 0 0 0), 3, 24) := by kernel_rfl

theorem made_zero3 (n : Nat) : (madeCells #[Value.int .i64 0, Value.int .i64 0, Value.int .i64 0] (n * 3)).toList = (List.replicate (n * 3) (0 : Int)).map (Value.int .i64) := by
  unfold madeCells
  rw [List.map_replicate, Array.toList_map, List.eq_replicate_iff]
  refine ⟨by simp, fun v hv => ?_⟩
  obtain ⟨i, _, rfl⟩ := List.mem_map.1 hv
  have : i % 3 < 3 := Nat.mod_lt _ (by omega)
  show (#[.int .i64 0, .int .i64 0, .int .i64 0] : Array Value)[i % 3]! = _
  match i % 3, this with
  | 0, _ => rfl
  | 1, _ => rfl
  | 2, _ => rfl

set_option maxRecDepth 100000 in
set_option maxHeartbeats 1000000 in
theorem toGateS_any (A : Option Addr) (cap : Nat) (xs : List G3) (w : World) (hn : xs.length ≤ 1048576) (hx : Hid (FlatAt w A (flatG xs))) :
    Calls Tryd.prog 62 #[.slice A xs.length cap] w fun e w' => ∃ g, e = .returned (.slice (some ⟨g, 0, none⟩) xs.length xs.length) ∧ FlatIn w' (some ⟨g, 0, none⟩) (flatG xs) w.heap.size w'.heap.size ∧ Below w.heap.size w w' := by
  obtain ⟨i0, hi, hz0, hz1, hz2⟩ := info_parts Tryd.infoGate
  go_enter Tryd.func62, Tryd.ntmps62
  go_wp2_with (at_make; refine wpList_make_full _ rfl _ _ 57 rfl w.heap.size 41 i0 (tv 0 0 0) 3 Tryd.underlying57 hi hz0 hz1 .i64 .i64 _ _ xs.length rfl rfl rfl rfl (by rw [hz2]; omega) (by unfold maxLen; omega) (Nat.le_refl _) ?_)
  intro w1 hown hgrow
  rw [made_zero3] at hown
  have F1 := Lib.hid (FlatIn.of_owns hown rfl)
  have z1 := hgrow.size
  have B1 : Below w.heap.size w w1 := Below.grown (by go_grown) hgrow (by simp) (fun k hk => by cases hk)
  clear hown hgrow
  go_wp2_with fail
  go_loopw [4] (fun i wr => ∃ (k : Nat) (zs : List Int), i = .int .i64 k ∧ k ≤ xs.length ∧ zs.length = xs.length * 3 ∧ (∀ j, j < k * 3 → zs[j]? = (flatG xs)[j]?) ∧ FlatIn wr (some ⟨w.heap.size, 0, none⟩) zs w.heap.size w1.heap.size ∧ Below w.heap.size w wr ∧ w1.heap.size ≤ wr.heap.size) (fun i _ => xs.length - (intOf i).toNat)
  case atStart => exact ⟨0, _, rfl, Nat.zero_le _, by simp, fun j hj => by omega, F1.out, B1, Nat.le_refl _⟩
  case round =>
    obtain ⟨k, zs, rfl, hk, hl, hz, hf, hb, hs⟩ := hrel
    have Hf := Lib.hid hf
    have Hz := Lib.hid hz
    clear hf hz
    by_cases hlt : k < xs.length
    · obtain ⟨x, hkx⟩ : ∃ x, xs[k]? = some x := ⟨_, List.getElem?_eq_getElem hlt⟩
      have Hx := Lib.hid (flatG_at xs k x hkx)
      obtain ⟨b, off, rfl, hbl, hc⟩ := hx.out.three hkx
      clear hkx
      obtain ⟨c0, c1, c2⟩ := hc.below hb hbl
      clear hc
      go_wp2_with fail
      refine (toGate_any _ _ _ _).mono ?_
      rintro e w2 ⟨rfl, b2⟩
      have F2 := Lib.hid (Hf.out.below b2 hs)
      obtain ⟨⟨z0, z1, z2, d0, d1, d2⟩, f2, _, hg⟩ := F2.out.slots3 hl hlt
      have z2' := b2.size
      go_wp2
      go_roundw
      case rel =>
        obtain ⟨h0, h1, h2⟩ := Hx.out
        refine ⟨k + 1, set3 zs (k * 3) _ _ _, by go_num, by omega, by rw [set3_len]; exact hl, set3_step hl hlt Hz.out h0 h1 h2, F2.out.set3 _ _ _ _, ?_, ?_⟩
        · have B2 := hb.trans (b2.mono (by omega))
          go_grown
        · go_size
      case measure => simp [intOf]; omega
    · go_wp2
      go_ret
      have hkn : k = xs.length := by omega
      have hzs : zs = flatG xs := eq_of_at hl (flatG_len xs) (by rw [← hkn]; exact Hz.out)
      rw [hzs] at Hf
      exact ⟨_, rfl, Hf.out.mono (Nat.le_refl _) hs (Nat.le_refl _), hb⟩

set_option maxHeartbeats 1000000 in
theorem szGateS_any (A : Option Addr) (cap n : Nat) (left : Int) (w : World) (hl : 0 ≤ left ∧ left ≤ 1048576) (hn : n ≤ 9223372036854775807) :
    Calls Tryd.prog 59 #[.slice A n cap, .int .i64 left] w fun e w' => e = .returned (.int .i64 (if left < n then -1 else left - n)) ∧ w' = w := by
  obtain ⟨h1, h2⟩ := hl
  by_cases h : left < n
  · rw [if_pos h]
    go_enter Tryd.func59, Tryd.ntmps59
    go_wp2
    go_ret
    exact ⟨rfl, rfl⟩
  · rw [if_neg h]
    go_enter Tryd.func59, Tryd.ntmps59
    go_wp2
    go_ret
    exact ⟨rfl, rfl⟩

theorem sameG (x : G3) : (x.1 == x.1 && x.2.1 == x.2.1 && x.2.2 == x.2.2) = true := by simp
theorem eqGate_same (x : G3) (w : World) :
    Calls Tryd.prog 88 #[gvG x, gvG x] w fun r w' => r = .returned (.bool true) ∧ Below w.heap.size w w' := by
  have h := eqGate_any x.1 x.2.1 x.2.2 x.1 x.2.1 x.2.2 w
  rw [sameG] at h
  exact h

set_option maxHeartbeats 1000000 in
theorem eqGateS_same (A A' : Option Addr) (cap cap' : Nat) (xs : List G3) (w : World) (hn : xs.length ≤ 9223372036854775807) (hx : Hid (FlatAt w A (flatG xs))) (hy : Hid (FlatAt w A' (flatG xs))) :
    Calls Tryd.prog 65 #[.slice A xs.length cap, .slice A' xs.length cap'] w fun e w' => e = .returned (.bool true) ∧ Below w.heap.size w w' := by
  go_enter Tryd.func65, Tryd.ntmps65
  go_wp2_with fail
  go_loopw [5] (fun i wr => ∃ k : Nat, i = .int .i64 k ∧ k ≤ xs.length ∧ Below w.heap.size w wr) (fun i _ => xs.length - (intOf i).toNat)
  case atStart => exact ⟨0, rfl, Nat.zero_le _, Below.refl _ _⟩
  case round =>
    obtain ⟨k, rfl, hk, hb⟩ := hrel
    by_cases hlt : k < xs.length
    · obtain ⟨x, hkx⟩ : ∃ x, xs[k]? = some x := ⟨_, List.getElem?_eq_getElem hlt⟩
      obtain ⟨b, off, rfl, hbl, hc⟩ := hx.out.three hkx
      obtain ⟨b', off', rfl, hbl', hc'⟩ := hy.out.three hkx
      clear hkx
      obtain ⟨c0, c1, c2⟩ := hc.below hb hbl
      obtain ⟨c0', c1', c2'⟩ := hc'.below hb hbl'
      clear hc hc'
      have zb := hb.size
      have y1 : b < wr.heap.size := by omega
      have y2 : b' < wr.heap.size := by omega
      go_wp2_with fail
      go_region_held3 (fun w' => (∀ b o, b < wr.heap.size → w'.cell? ⟨b, o, none⟩ = wr.cell? ⟨b, o, none⟩) ∧ Below wr.heap.size wr w') ((refine SB_mk ?_; go_grown)) (first | (go_at_call 88; refine (eqGate_same x _).mono ?_; rintro e wA ⟨rfl, bA⟩; obtain ⟨bAc, bAf⟩ := bcell bA; (try with_reducible have yA := lt_size bA); (try with_reducible have yA := lt_sizeD bA); (try with_reducible have yB := Nat.lt_of_lt_of_le (by assumption) bA.size); have sA := (SB_step (W := wr) (by with_reducible assumption) bA).2; have zA := sA.size))
      all_goals
        go_wp2
        go_roundw
        case rel => exact ⟨k + 1, by go_num, by omega, hb.trans (sA.mono zb)⟩
        case measure => simp [intOf]; omega
    · go_wp2
      go_ret
      exact ⟨rfl, hb⟩

end Go.Proofs.YtgpocbhlcmohmaaDoor
