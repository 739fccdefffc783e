/- impl.ringIf: append, then a loop over ring numbers. -/
import Derived.Test.YtgpocbhlcmohmaaGreatDoorRing
import Derived.OwnWalk
import Derived.Deep.AppendLies
namespace Go.Proofs.YtgpocbhlcmohmaaGreatDoor
open Go.RowKit

abbrev Q4 := Int × Int × Int × Int
def okQ (x : Q4) : Bool := rOk x.1 x.2.1 x.2.2.1 x.2.2.2
def cellsQ (xs : List Q4) : List Value := xs.flatMap fun x => [.int .i64 x.1, .int .i64 x.2.1, .int .i64 x.2.2.1, .int .i64 x.2.2.2]
theorem cellsQ_len (xs : List Q4) : (cellsQ xs).length = xs.length * 4 := by
  induction xs with
  | nil => rfl
  | cons x xs ih => show (_ ++ cellsQ xs).length = _; rw [List.length_append, ih]; simp; omega
theorem cellsQ_append (xs ys : List Q4) : cellsQ (xs ++ ys) = cellsQ xs ++ cellsQ ys := by simp [cellsQ]
theorem cellsQ_at (xs : List Q4) : ∀ (k : Nat) (x : Q4), xs[k]? = some x →
    (cellsQ xs)[k * 4]? = some (.int .i64 x.1) ∧ (cellsQ xs)[k * 4 + 1]? = some (.int .i64 x.2.1) ∧ (cellsQ xs)[k * 4 + 2]? = some (.int .i64 x.2.2.1) ∧ (cellsQ xs)[k * 4 + 3]? = some (.int .i64 x.2.2.2) := by
  induction xs with
  | nil => intro k x h; simp at h
  | cons y xs ih =>
    intro k x h
    have e : cellsQ (y :: xs) = [.int .i64 y.1, .int .i64 y.2.1, .int .i64 y.2.2.1, .int .i64 y.2.2.2] ++ cellsQ xs := rfl
    match k, h with
    | 0, h => simp at h; subst h; exact ⟨rfl, rfl, rfl, rfl⟩
    | k + 1, h =>
      have := ih k x (by simpa using h)
      rw [e]
      refine ⟨?_, ?_, ?_, ?_⟩ <;> rw [List.getElem?_append_right (by simp; omega)] <;> simp only [List.length_cons, List.length_nil]
      · rw [show (k + 1) * 4 - (0 + 1 + 1 + 1 + 1) = k * 4 from by omega]; exact this.1
      · rw [show (k + 1) * 4 + 1 - (0 + 1 + 1 + 1 + 1) = k * 4 + 1 from by omega]; exact this.2.1
      · rw [show (k + 1) * 4 + 2 - (0 + 1 + 1 + 1 + 1) = k * 4 + 2 from by omega]; exact this.2.2.1
      · rw [show (k + 1) * 4 + 3 - (0 + 1 + 1 + 1 + 1) = k * 4 + 3 from by omega]; exact this.2.2.2
theorem cellsQ_one (xs : List Q4) : ∀ u ∈ cellsQ xs, u.oneCell' = true := by
  intro u hu
  simp only [cellsQ, List.mem_flatMap] at hu
  obtain ⟨x, _, hx⟩ := hu
  simp at hx
  rcases hx with rfl | rfl | rfl | rfl <;> rfl
theorem okAll_step {xs : List Q4} {k : Nat} {x : Q4} (h : xs[k]? = some x) : (xs.take (k + 1)).all okQ = ((xs.take k).all okQ && okQ x) := by
  obtain ⟨hk, rfl⟩ := List.getElem?_eq_some_iff.1 h
  rw [List.take_succ_eq_append_getElem hk, List.all_append]
  simp
theorem okAll_bad {xs : List Q4} {k : Nat} {x : Q4} (h : xs[k]? = some x) (hb : okQ x = false) : xs.all okQ = false := by
  obtain ⟨hk, rfl⟩ := List.getElem?_eq_some_iff.1 h
  rw [List.all_eq_false]
  exact ⟨xs[k], List.getElem_mem hk, by simpa using hb⟩

theorem addr_at (g j : Nat) : (⟨g, 0, none⟩ : Addr).add j = ⟨g, j, none⟩ := by
  unfold Addr.add
  split
  · next h => subst h; rfl
  · simp

theorem own_lt {w : World} {base : Nat} {e : TypeId} {size n : Nat} {v : Value} {ys : List Value} (h : w.ownsRow base e size v n ys) : ∀ k, v.ownBlock = some k → base ≤ k ∧ k < w.heap.size := by
  intro k hk
  rcases h.2 with ⟨rfl, _⟩ | ⟨g, cap, cur, rfl, hb, hg, _⟩
  · simp [Value.ownBlock] at hk
  · simp [Value.ownBlock] at hk
    subst hk
    exact ⟨hb, (Array.getElem?_eq_some_iff.1 hg).1⟩

theorem Tryz.infoRing : (Tryz.prog.info? 29).map (fun i => (i.zero, i.size, i.bytes)) = some (some (rv 0 0 0 0), 4, 32) := by kernel_rfl

set_option maxRecDepth 100000 in
set_option maxHeartbeats 1000000 in
theorem ringIf_any (A : Option Addr) (cap : Nat) (xs : List Q4) (a b c d : Int) (base : Nat) (w : World) (hn : xs.length ≤ 1000000)
    (hown : w.ownsRow base 29 4 (.slice A xs.length cap) xs.length (cellsQ xs)) (hbase : base ≤ w.heap.size) :
    Calls Tryz.prog 38 #[rv a b c d, .slice A xs.length cap] w fun e w' =>
      e = .returned (.tuple #[rv (rI (xs.all okQ && rOk a b c d) a) (rI (xs.all okQ && rOk a b c d) b) (rI (xs.all okQ && rOk a b c d) c) (rI (xs.all okQ && rOk a b c d) d), .bool (xs.all okQ && rOk a b c d)]) ∧ Below base w w' := by
  obtain ⟨i0, hi, hz0, hz1, hz2⟩ := info_parts Tryz.infoRing
  go_enter Tryz.func38, Tryz.ntmps38
  have how := Lib.hid hown
  clear hown
  go_wp2_with (at_builtin; refine wpList_append_own _ rfl _ _ 78 rfl base 29 i0 (rv 0 0 0 0) 4 32 Tryz.underlying78 hi hz0 hz1 hz2 rfl (by decide) _ xs.length (cellsQ xs) rfl (((how.out.alloc _).alloc _).alloc _) ⟨w.heap.size + 1 + 1, 0, none⟩ 1 1 [.int .i64 a, .int .i64 b, .int .i64 c, .int .i64 d] rfl rfl ?c1 ?c2 ?c3 ?c4 ?c5 ?_)
  case c1 => exact cells_at _ (heap_top _ _ (by simp))
  case c2 => intro u hu; simp at hu; rcases hu with rfl | rfl | rfl | rfl <;> rfl
  case c3 => unfold maxLen; omega
  case c4 => omega
  case c5 => simp; omega
  intro v' w1 hown' hgrow _
  obtain ⟨g, cap', rfl, hg1, hg2⟩ := hown'.form (by omega)
  have Hcell := Lib.hid (fun (k : Nat) (x : Q4) (hk : (xs ++ [(a, b, c, d)])[k]? = some x) => by
    have h4 := cellsQ_at (xs ++ [(a, b, c, d)]) k x hk
    rw [cellsQ_append] at h4
    have hc := fun j u hu => hown'.cells (g := g) rfl j u hu
    exact And.intro (hc _ _ h4.1) (And.intro (hc _ _ h4.2.1) (And.intro (hc _ _ h4.2.2.1) (hc _ _ h4.2.2.2))))
  clear hown'
  have hlt := own_lt how.out
  have Bw1 : Below base w w1 := Below.grown (by go_grown) hgrow (by simp; omega) (fun k hk => (hlt k hk).1)
  have kc : ∀ b o, w.heap.size ≤ b → b < w.heap.size + 3 → w1.cell? ⟨b, o, none⟩ = _ := fun b o h1 h2 => World.cell?_of_block (hgrow.block b (by simp; omega) (fun e => by have := (hlt b e.symm).2; omega))
  have kf : ∀ b o, w.heap.size ≤ b → b < w.heap.size + 3 → w1.frozen? ⟨b, o, none⟩ = _ := fun b o h1 h2 => World.frozen?_of_block (hgrow.block b (by simp; omega) (fun e => by have := (hlt b e.symm).2; omega))
  have hsz := hgrow.size
  simp only [World.size_alloc] at hsz
  clear hlt hgrow
  go_wp2_with fail
  go_loopw [13] (fun i wr => ∃ k : Nat, i = .int .i64 k ∧ k ≤ xs.length + 1 ∧ ((xs ++ [(a, b, c, d)]).take k).all okQ = true ∧ Below w1.heap.size w1 wr) (fun i _ => xs.length + 1 - (intOf i).toNat)
  case atStart => exact ⟨0, rfl, by omega, rfl, Below.refl _ _⟩
  case round =>
    obtain ⟨k, rfl, hk, hall, hbl⟩ := hrel
    have Hall := Lib.hid hall
    clear hall
    obtain ⟨rc, rf⟩ := bcellB hbl
    have zr := hbl.size
    have hs0 : w.heap.size < w1.heap.size := by omega
    have hs1 : w.heap.size + 1 < w1.heap.size := by omega
    by_cases hlt : k < xs.length + 1
    · have hkx : (xs ++ [(a, b, c, d)])[k]? = some ((xs ++ [(a, b, c, d)])[k]'(by simp; omega)) := List.getElem?_eq_getElem _
      generalize (xs ++ [(a, b, c, d)])[k]'(by simp; omega) = x at hkx
      obtain ⟨x0, x1, x2, x3⟩ := x
      obtain ⟨c0, c1, c2, c3⟩ := Hcell.out k _ hkx
      rw [addr_at] at c0 c1 c2 c3
      have Hst := Lib.hid (okAll_step hkx)
      have Hbad := Lib.hid (okAll_bad hkx)
      clear hkx
      rcases hok : rOk x0 x1 x2 x3 with _ | _
      · go_wp2_with (go_at_call 32; refine (IsValidRing_any _ _ _ _ _).mono ?_; rintro e w2 ⟨rfl, b2⟩; have C2 := Below.chain hbl (by go_grown) b2 (by go_size); obtain ⟨b2c, b2f⟩ := bcell b2; obtain ⟨C2c, C2f⟩ := bcellB C2)
        have hall0 : (xs.all okQ && rOk a b c d) = false := by
          have := Hbad.out hok
          rw [List.all_append] at this
          simpa [okQ] using this
        rw [hall0]
        refine bodyPost_ret (by simp [results, Tryz.results38, go_sem, C2c, kc, hs1, rI_f]) rfl ⟨rfl, ?_⟩
        have B2 : Below base w w2 := Bw1.trans (C2.mono (by omega))
        go_grown
      · go_wp2_with (go_at_call 32; refine (IsValidRing_any _ _ _ _ _).mono ?_; rintro e w2 ⟨rfl, b2⟩; have C2 := Below.chain hbl (by go_grown) b2 (by go_size); obtain ⟨b2c, b2f⟩ := bcell b2; obtain ⟨C2c, C2f⟩ := bcellB C2)
        go_roundw
        case rel => exact ⟨k + 1, by go_num, by omega, by rw [Hst.out, Hall.out]; simpa [okQ] using hok, C2⟩
        case measure => simp [intOf]; omega
    · go_wp2
      have hk2 : k = xs.length + 1 := by omega
      have hall0 : (xs.all okQ && rOk a b c d) = true := by
        have := Hall.out
        rw [List.take_of_length_le (by simp; omega), List.all_append] at this
        simpa [okQ] using this
      rw [hall0]
      refine bodyPost_ret (by simp [results, Tryz.results38, go_sem, rc, kc, hs1, rI_t]) rfl ⟨rfl, ?_⟩
      have B2 : Below base w wr := Bw1.trans (hbl.mono (by omega))
      go_grown
end Go.Proofs.YtgpocbhlcmohmaaGreatDoor
