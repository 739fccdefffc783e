/- The reference's draws that begin with bytes: a circuit, a list of qubits and a number for MapQubits. -/
import Derived.Test.YtlihnipbdckmkaaDrwF
import Derived.Test.YtlihnipbdckmkaaHasI
import Derived.Deep.RegionWith
namespace Go.Proofs.Ytlihnipbdckmkaa
open Go.RowKit

theorem Try.infoIntD : (Try.prog.info? 3).map (fun i => (i.zero, i.size, i.bytes)) = some (some (.int .i64 0), 1, 8) := by kernel_rfl

theorem add_mod_step (k d N : Nat) : ((k + 1) % N + d) % N = (k + (d + 1)) % N := by
  rw [Nat.mod_add_mod]
  congr 1
  omega
/-- there is a number that a short list does not hold -/
theorem free_num {ts : List Int} {N k : Nat} (hl : ts.length < N) (h2 : ts.length ≤ 2) (hN : N ≤ 5) (hk : k < N) : ∃ d, d ≤ 2 ∧ ts.contains (((k + d) % N : Nat) : Int) = false := by
  match ts, hl, h2 with
  | [], _, _ => exact ⟨0, by omega, rfl⟩
  | [a], hl, _ =>
    simp at hl
    by_cases h0 : a = (((k + 0) % N : Nat) : Int)
    · refine ⟨1, by omega, ?_⟩
      have h1 : ¬ (((k + 1) % N : Nat) : Int) = a := by
        rw [h0]
        have e : N = 2 ∨ N = 3 ∨ N = 4 ∨ N = 5 := by omega
        rcases e with rfl | rfl | rfl | rfl <;> omega
      simpa using h1
    · refine ⟨0, by omega, ?_⟩
      have h1 : ¬ (((k + 0) % N : Nat) : Int) = a := fun e => h0 e.symm
      simpa using h1
  | [a, b], hl, _ =>
    simp at hl
    have e : N = 3 ∨ N = 4 ∨ N = 5 := by omega
    by_cases h0 : a = (((k + 0) % N : Nat) : Int) ∨ b = (((k + 0) % N : Nat) : Int)
    · by_cases h1 : a = (((k + 1) % N : Nat) : Int) ∨ b = (((k + 1) % N : Nat) : Int)
      · refine ⟨2, by omega, ?_⟩
        have h2 : ¬ ((((k + 2) % N : Nat) : Int) = a ∨ (((k + 2) % N : Nat) : Int) = b) := by
          rcases e with rfl | rfl | rfl <;> omega
        simpa using h2
      · refine ⟨1, by omega, ?_⟩
        have h2 : ¬ ((((k + 1) % N : Nat) : Int) = a ∨ (((k + 1) % N : Nat) : Int) = b) := fun e => h1 (e.imp Eq.symm Eq.symm)
        simpa using h2
    · refine ⟨0, by omega, ?_⟩
      have h2 : ¬ ((((k + 0) % N : Nat) : Int) = a ∨ (((k + 0) % N : Nat) : Int) = b) := fun e => h0 (e.imp Eq.symm Eq.symm)
      simpa using h2
  | _ :: _ :: _ :: _, _, h2 => simp at h2
theorem LocC.of_same {w w' : World} {b : Nat} {q : Int} {A : Option Addr} {n cap : Nat} (h : LocC w b q A n cap) (hs : w.heap.size ≤ w'.heap.size) (hb : w'.heap[b]? = w.heap[b]?) : LocC w' b q A n cap :=
  ⟨Nat.lt_of_lt_of_le h.lt hs, (World.cell?_of_block (a := ⟨b, 0, none⟩) hb).trans h.c0, (World.cell?_of_block (a := ⟨b, 1, none⟩) hb).trans h.c1⟩
theorem Dr.same {w w' : World} {g : Nat} {A : Option Addr} {n cap T : Nat} (h : Dr w g A n cap T) (hc : CodeAt w' g A n) (hs : w.heap.size ≤ w'.heap.size) (hg : w'.heap[g]? = w.heap[g]?) : Dr w' g A n cap T :=
  have c := fun o => World.cell?_of_block (a := ⟨g, o, none⟩) hg
  ⟨Nat.lt_of_lt_of_le h.lt hs, hc, (c 0).trans h.c0, let ⟨a, s, h1, h2, h3, h4⟩ := h.st; ⟨a, s, h1, (c 1).trans h2, (c 2).trans h3, h4⟩, fun o => (World.frozen?_of_block (a := ⟨g, o, none⟩) hg).trans (h.free o)⟩
/-- the draw's memory between its steps: the list that is being made, the circuit in block X, the result's block, the cursor behind it -/
structure MQ (w : World) (X lo : Nat) (q : Int) (A1 : Option Addr) (c1 : Nat) (xs : List G3) (A : Option Addr) (n cap : Nat) (T : Option Addr) (c2 : Nat) (ts : List Int) (TT : Nat) (wr : World) : Prop where
  own : wr.ownsRow (X + 1) 3 1 (.slice T ts.length c2) ts.length (ts.map (Value.int .i64))
  loc : LocC wr X q A1 xs.length c1
  zero : ZeroC wr w.heap.size
  flat : FlatIn wr A1 (flatG xs) lo X
  dr : Dr wr (w.heap.size + 1) A n cap TT
  below : Below w.heap.size w wr
  h1 : w.heap.size + 1 < lo
  h2 : lo ≤ X
theorem MQ.touch {w wr w' : World} {X lo : Nat} {q : Int} {A1 : Option Addr} {c1 : Nat} {xs : List G3} {A : Option Addr} {n cap : Nat} {T : Option Addr} {c2 : Nat} {ts : List Int} {TT TT' : Nat} (h : MQ w X lo q A1 c1 xs A n cap T c2 ts TT wr)
    (ht : Touch (w.heap.size + 1) (w.heap.size + 1 + 1) wr w') (hd : Dr w' (w.heap.size + 1) A n cap TT') : MQ w X lo q A1 c1 xs A n cap T c2 ts TT' w' := by
  have k1 := h.h1
  have k2 := h.h2
  have k3 := h.loc.lt
  exact ⟨owns_touchG h.own ht (by omega), h.loc.touch ht (by omega), (ht.block w.heap.size (by omega) (by omega)).trans h.zero, h.flat.touch ht (by omega), hd, Touch.new h.below ht (by omega), k1, k2⟩
theorem MQ.more {w wr : World} {X lo : Nat} {q : Int} {A1 : Option Addr} {c1 : Nat} {xs : List G3} {A : Option Addr} {n cap : Nat} {T : Option Addr} {c2 : Nat} {ts : List Int} {TT TT' : Nat} (h : MQ w X lo q A1 c1 xs A n cap T c2 ts TT wr) (ht : TT ≤ TT') : MQ w X lo q A1 c1 xs A n cap T c2 ts TT' wr :=
  ⟨h.own, h.loc, h.zero, h.flat, h.dr.more ht, h.below, h.h1, h.h2⟩
theorem MQ.push {w wr w' : World} {X lo : Nat} {q : Int} {A1 : Option Addr} {c1 : Nat} {xs : List G3} {A : Option Addr} {n cap : Nat} {T : Option Addr} {c2 : Nat} {ts : List Int} {TT : Nat} {z : Int} {g cap2 : Nat} (h : MQ w X lo q A1 c1 xs A n cap T c2 ts TT wr) (hB : ByteAt w A n) (o : Obj)
    (hg : (wr.alloc o).grownBy w' (Value.slice T ts.length c2).ownBlock) (ho : w'.ownsRow (X + 1) 3 1 (.slice (some ⟨g, 0, none⟩) (ts.length + 1) cap2) (ts.length + 1) (ts.map (Value.int .i64) ++ [.int .i64 z])) : MQ w X lo q A1 c1 xs A n cap (some ⟨g, 0, none⟩) cap2 (ts ++ [z]) TT w' := by
  have k1 := h.h1
  have k2 := h.h2
  have k3 := h.loc.lt
  have hr : ∀ k, (Value.slice T ts.length c2).ownBlock = some k → X + 1 ≤ k := fun k hk => (h.own.lt k hk).1
  have hs : wr.heap.size ≤ w'.heap.size := by
    have := hg.size
    simp at this
    omega
  have same : ∀ b, b ≤ X → w'.heap[b]? = wr.heap[b]? := fun b hb => (hg.block b (by simp; omega) fun e => by have := hr b e.symm; omega).trans (Below.heap_alloc wr o b (by omega))
  have hb : Below w.heap.size w w' := Below.grown (h.below.alloc h.below.size o) hg (by have := h.below.size; simp; omega) (fun kk hk => by have := hr kk hk; omega)
  have e2 : (ts ++ [z]).length = ts.length + 1 := by simp
  refine ⟨by rw [e2, List.map_append]; exact ho, h.loc.of_same hs (same X (Nat.le_refl _)), (same _ (by omega)).trans h.zero, ⟨?_, by omega, ?_⟩, h.dr.same (hB.code hb (by omega)) hs (same _ (by omega)), hb, k1, k2⟩
  · intro a ha
    obtain ⟨gg, p1, p2, p3, p4⟩ := h.flat.1 a ha
    exact ⟨gg, p1, p2, p3, fun o' => (World.frozen?_of_block (a := ⟨gg, o', none⟩) (same gg (by omega))).trans (p4 o')⟩
  · refine h.flat.2.2.keep hs fun a ha => ?_
    obtain ⟨gg, rfl, p2, p3, _⟩ := h.flat.1 a ha
    exact same gg (by omega)

/-- a circuit, a list and a number in new memory -/
def MapD (w : World) (e : Ending) (w' : World) : Prop :=
  ∃ (q : Int) (A1 : Option Addr) (c1 : Nat) (xs : List G3) (T : Option Addr) (c2 : Nat) (ts : List Int) (n : Int), e = .returned (.tuple #[cv q A1 xs.length c1, .slice T ts.length c2, .int .i64 n]) ∧ xs.length ≤ 1000 ∧ ts.length ≤ 1000 ∧ ts.length ≤ c2 ∧ FlatIn w' A1 (flatG xs) w.heap.size w'.heap.size ∧ FlatIn w' T ts w.heap.size w'.heap.size ∧ Below w.heap.size w w'
theorem owns_cap {w : World} {base : Nat} {e : TypeId} {size n cap : Nat} {A : Option Addr} {xs : List Value} (h : w.ownsRow base e size (.slice A n cap) n xs) : n ≤ cap := by
  rcases h.2 with ⟨h', h0⟩ | ⟨g, c, cur, h', _, _, hc, _⟩
  · omega
  · cases h'
    exact hc

set_option maxRecDepth 100000 in
set_option maxHeartbeats 8000000 in
theorem drawMapQ_any (A : Option Addr) (n cap : Nat) (w : World) (hB : Hid (ByteAt w A n)) :
    Calls Try.prog 21 #[.slice A n cap] w fun e w' => MapD w e w' := by
  obtain ⟨i0, hi, hz0, hz1, hz2⟩ := info_parts Try.infoIntD
  go_enter Try.func21, Try.ntmps21
  go_wp2_with fail
  generalize hW0 : (w.alloc (.cells #[.int .i64 0, .slice none 0 0] 38)).alloc (.cells #[.slice A n cap, .int .i64 0, .int .u64 0] 73) = W0
  have B0 : Below w.heap.size w W0 := by rw [← hW0]; clear hW0; go_grown
  have hd0 : Hid (Dr W0 (w.heap.size + 1) A n cap 0) := by rw [← hW0] at B0 ⊢; exact Dr.start hB.out B0 (by omega) (heap_top _ _ (by simp))
  have HZ : Hid (ZeroC W0 w.heap.size) := by rw [← hW0]; exact (Below.heap_alloc _ _ _ (by go_size)).trans (heap_top _ _ rfl)
  have hs0 : w.heap.size + 1 < W0.heap.size := by rw [← hW0]; go_size
  clear hW0
  refine (circuit_any _ A n cap 0 _ hd0 (by omega)).mono ?_
  rintro e w1 ⟨q, A1, c1, xs, rfl, hq1, hq3, hxl, hown1, hd1, ht1⟩
  have Hd1 := Lib.hid hd1
  have B1 := Touch.new B0 ht1 (by omega)
  have HZ1 : Hid (ZeroC w1 w.heap.size) := (ht1.block _ (by omega) (by omega)).trans HZ.out
  have Hf1 := Lib.hid (FlatIn.of_owns hown1 rfl)
  have zs1 := ht1.size
  obtain ⟨Q, rfl⟩ := Int.eq_ofNat_of_zero_le (show 0 ≤ q by omega)
  clear hd1 ht1 B0 hd0 HZ hown1
  go_upto_region 3 with fail
  generalize hW1 : w1.alloc (.cells #[.int .i64 (Q : Int), .slice A1 xs.length c1] 38) = W1
  have HM1 : Hid (MQ w w1.heap.size W0.heap.size Q A1 c1 xs A n cap none 0 [] 1002 W1) := by
    rw [← hW1]
    exact ⟨World.ownsRow_nil _ _ _ _, LocC.of_row (heap_top _ _ rfl), (Below.heap_alloc _ _ _ (by omega)).trans HZ1.out, Hf1.out.alloc _, (Hd1.out.alloc _).more (by omega), B1.alloc B1.size _, hs0, zs1⟩
  have hs1 : w1.heap.size < W1.heap.size := HM1.out.loc.lt
  obtain ⟨_, x0, x1⟩ := HM1.out.loc
  clear hW1 Hd1 HZ1 B1 Hf1
  have Hp : Hid (∀ W, W = W1.drew → Calls Try.prog 52 #[.pointer (some ⟨w.heap.size + 1, 0, none⟩), .int .i64 3] W fun e w' => ∃ k : Int, e = .returned (.int .i64 k) ∧ 0 ≤ k ∧ k < 3 ∧ MQ w w1.heap.size W0.heap.size Q A1 c1 xs A n cap none 0 [] 1004 w' ∧ Touch (w.heap.size + 1) (w.heap.size + 1 + 1) W w') := fun W hW => by
    subst hW
    exact (pick_any _ A n cap 1002 3 _ (Lib.hid HM1.out.dr.drew) (by omega) (by omega) (by omega)).mono fun e w' ⟨k, he, h1, h2, h3, h4⟩ => ⟨k, he, h1, h2, HM1.out.touch ⟨h4.os, h4.tape, h4.output, h4.size, h4.block⟩ h3, h4⟩
  have hwQ : ∀ k : Int, 0 ≤ k → k < 3 → IntKind.wrap .i64 ((Q : Int) + k) = (Q : Int) + k := fun k h1 h2 => IntWalk.i64_in _ (by omega)
  have h1r : w1.heap.size < w.heap.size + 1 ∨ w.heap.size + 1 + 1 ≤ w1.heap.size := by omega
  go_wp2_with fail
  go_region_with (first | (go_at_call 52; refine (Hp.out _ rfl).mono ?_; rintro e w2 ⟨m, rfl, hm0, hm1, hM2, ht2⟩; have hwm := hwQ m hm0 hm1; obtain ⟨c2, g2⟩ := Touch.rule ht2 (S := w1.heap.size) hs1 h1r; have HM2 := Lib.hid hM2; have y2 := hM2.loc.lt; clear hM2 ht2))
  all_goals
    obtain ⟨N, hN⟩ := Int.eq_ofNat_of_zero_le (show 0 ≤ (Q : Int) + m by omega)
    have hQN : Q ≤ N := by omega
    have hN5 : N ≤ 5 := by omega
    have hQ3 : Q ≤ 3 := by omega
    try rw [hN]
    clear hwm hN hm0 hm1 c2 g2 x0 x1 HM1 hs1
    go_wp2_with fail
    go_loopg [8, 9] Q (fun gk t s wr => ∃ (T : Option Addr) (c2 : Nat) (ts : List Int), s = .int .i64 (ts.length : Int) ∧ t = .slice T ts.length c2 ∧ ts.length + gk = Q ∧ MQ w w1.heap.size W0.heap.size Q A1 c1 xs A n cap T c2 ts (1004 + 100 * ts.length) wr)
    case atStart => exact ⟨none, 0, [], rfl, rfl, by simp, HM2.out⟩
    case round =>
      obtain ⟨T, c2, ts, rfl, rfl, hig, hM⟩ := hrel
      have HM := Lib.hid hM
      obtain ⟨_, x0, x1⟩ := hM.loc
      have y3 := hM.loc.lt
      have Hig := Lib.hid hig
      clear hM
      by_cases hlt : ts.length < Q
      · go_wp2_with fail
        refine (mostC_any _ _ _).mono ?_
        rintro e w' ⟨rfl, rfl⟩
        rw [show (if (N : Int) > 1 then (N : Int) else 1) = (N : Int) from by split <;> omega]
        go_wp2_with fail
        refine (pick_any _ A n cap _ (N : Int) _ (Lib.hid HM.out.dr) (by omega) (by omega) (by omega)).mono ?_
        rintro e w3 ⟨k, rfl, hk0, hk1, hd3, ht3⟩
        obtain ⟨k, rfl⟩ := Int.eq_ofNat_of_zero_le hk0
        have HM3 := Lib.hid (HM.out.touch ht3 hd3)
        obtain ⟨D, hD2, hfree⟩ := free_num (ts := ts) (N := N) (k := k) (by omega) (by omega) hN5 (by omega)
        have Hfree := Lib.hid hfree
        clear hfree hd3 ht3 HM x0 x1 y3 hk0
        go_wp2_with fail
        go_loopg [10] D (fun gj s wi => ∃ (j : Nat), s = .int .i64 (j : Int) ∧ j < N ∧ gj ≤ 2 ∧ ts.contains (((j + gj) % N : Nat) : Int) = false ∧ MQ w w1.heap.size W0.heap.size Q A1 c1 xs A n cap T c2 ts (1004 + 100 * ts.length + 2 + 2 * (2 - gj)) wi)
        case atStart => exact ⟨k, rfl, by omega, hD2, Hfree.out, HM3.out.more (by omega)⟩
        case round =>
          obtain ⟨j, rfl, hjN, hgj, hfr, hM⟩ := hrel
          have HMj := Lib.hid hM
          have Hfr := Lib.hid hfr
          have HF := Lib.hid (FlatIn.of_owns hM.own rfl).at
          have y4 := hM.loc.lt
          clear hM hfr
          go_wp2_with fail
          refine (l1Has_any T c2 ts (j : Int) _ (by omega) HF).mono ?_
          rintro e w' ⟨rfl, rfl⟩
          rcases hc : ts.contains (j : Int) with _ | _
          · go_wp2_with (at_builtin; refine wpList_append_lies _ rfl _ _ 49 rfl (w1.heap.size + 1) 3 i0 (.int .i64 0) 1 8 Try.underlying49 hi hz0 hz1 hz2 rfl (by decide) (.slice T ts.length c2) ts.length (ts.map (Value.int .i64)) rfl (HMj.out.own.alloc _) ⟨wr.heap.size, 0, none⟩ 1 1 [.int .i64 (j : Int)] rfl rfl ?c1 ?c2 (by decide) ?c3 ?c4 ?c5 (wr.heap.size + 1) ?c6 ?_)
            case c1 => exact cells_at _ (heap_top _ _ rfl)
            case c2 => intro v hv; simp at hv; subst hv; rfl
            case c3 => unfold maxLen; omega
            case c4 => omega
            case c5 => simp; omega
            case c6 => simp
            intro g cap2 w6 hown' hgrow hat hlt6
            have HM6 := Lib.hid (HMj.out.push hB.out _ hgrow hown')
            clear hown' hgrow hat
            go_wp2
            go_roundg (Q - (ts.length + 1))
            case measure => have := Hig.out; omega
            case rel => exact ⟨some ⟨g, 0, none⟩, cap2, ts ++ [(j : Int)], by simp, by simp, by simp; omega, HM6.out.more (by simp; omega)⟩
          · have hg0 : gk ≠ 0 := by
              rintro rfl
              have h := Hfr.out
              rw [Nat.add_zero, Nat.mod_eq_of_lt hjN, hc] at h
              cases h
            obtain ⟨d, rfl⟩ : ∃ d, gk = d + 1 := ⟨gk - 1, by omega⟩
            have Hcast : Hid ((((j + 1) % N : Nat) : Int) = ((j : Int) + 1) % (N : Int)) := by show _ = _; rw [Int.natCast_emod, Int.natCast_add]; rfl
            have hN0 : ((N : Int) == 0) = false := by rw [beq_eq_false_iff_ne]; omega
            go_wp2_with fail
            refine (one_any _ A n cap _ 12 _ (Lib.hid HMj.out.dr) (by omega) (by decide) (by decide)).mono ?_
            rintro e w5 ⟨b, rfl, hd5, ht5⟩
            have HM5 := Lib.hid (HMj.out.touch ht5 hd5)
            have y5 := HM5.out.loc.lt
            clear hd5 ht5
            cases b
            · go_wp2
              go_roundg d
              case measure => omega
              case rel => exact ⟨(j + 1) % N, by first | (rw [Hcast.out]; done) | (rw [Hcast.out]; rw [Int.tmod_eq_emod_of_nonneg (by omega)]), Nat.mod_lt _ (by omega), by omega, by rw [add_mod_step]; exact Hfr.out, HM5.out.more (by omega)⟩
            · go_wp2_with (at_builtin; refine wpList_append_lies _ rfl _ _ 49 rfl (w1.heap.size + 1) 3 i0 (.int .i64 0) 1 8 Try.underlying49 hi hz0 hz1 hz2 rfl (by decide) (.slice T ts.length c2) ts.length (ts.map (Value.int .i64)) rfl (HM5.out.own.alloc _) ⟨w5.heap.size, 0, none⟩ 1 1 [.int .i64 (j : Int)] rfl rfl ?c1 ?c2 (by decide) ?c3 ?c4 ?c5 (w5.heap.size + 1) ?c6 ?_)
              case c1 => exact cells_at _ (heap_top _ _ rfl)
              case c2 => intro v hv; simp at hv; subst hv; rfl
              case c3 => unfold maxLen; omega
              case c4 => omega
              case c5 => simp; omega
              case c6 => simp
              intro g cap2 w6 hown' hgrow hat hlt6
              have HM6 := Lib.hid (HM5.out.push hB.out _ hgrow hown')
              clear hown' hgrow hat
              go_wp2
              go_roundg (Q - (ts.length + 1))
              case measure => have := Hig.out; omega
              case rel => exact ⟨some ⟨g, 0, none⟩, cap2, ts ++ [(j : Int)], by simp, by simp, by simp; omega, HM6.out.more (by simp; omega)⟩
      · have hiQ : ts.length = Q := by omega
        have q0 := cell_of_row wr w.heap.size 0 _ _ _ HM.out.zero
        have q1 := cell_of_row wr w.heap.size 1 _ _ _ HM.out.zero
        have qf := fun o => frozen_of_row wr w.heap.size o _ _ HM.out.zero
        have zw : w.heap.size < wr.heap.size := by have := HM.out.below.size; have := HM.out.h1; have := HM.out.h2; omega
        go_wp2
        refine bodyPost_ret (v := .tuple #[cv Q A1 xs.length c1, .slice T ts.length c2, .int .i64 N]) (by simp [results, Try.results21, go_sem, q0, q1]) rfl ⟨Q, A1, c1, xs, T, c2, ts, N, rfl, by omega, by omega, owns_cap HM.out.own, ?_, ?_, ?_⟩
        · refine FlatIn.mono (lo := W0.heap.size) (hi := w1.heap.size) ?_ (by omega) (by go_size) (Nat.le_refl _)
          repeat (first | (with_reducible refine FlatIn.setFar ?_ (by dsimp only; omega) _) | (with_reducible refine FlatIn.drew ?_))
          exact HM.out.flat
        · refine FlatIn.mono (lo := w1.heap.size + 1) (hi := wr.heap.size) ?_ (by omega) (by go_size) (Nat.le_refl _)
          repeat (first | (with_reducible refine FlatIn.setFar ?_ (by dsimp only; omega) _) | (with_reducible refine FlatIn.drew ?_))
          exact FlatIn.of_owns HM.out.own rfl
        · have hB9 := HM.out.below
          go_grown
end Go.Proofs.Ytlihnipbdckmkaa
