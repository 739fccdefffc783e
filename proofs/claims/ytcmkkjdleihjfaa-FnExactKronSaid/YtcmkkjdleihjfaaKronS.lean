/- Kron of the reference: the loops. -/
import Derived.Test.YtcmkkjdleihjfaaKronM
import Derived.Test.YtcmkkjdleihjfaaKeepC
import Derived.Deep.RegionLaw
import Derived.Deep.DeepCutAuto
namespace Go.Proofs.Ytcmkkjdleihjfaa
open Go.RowKit

theorem Touch.grown {lo hi : Nat} {a w w2 : World} {row : Option Nat} (h : Touch lo hi a w) (hg : w.grownBy w2 row) (hr : ∀ k, row = some k → a.heap.size ≤ k) : Touch lo hi a w2 :=
  ⟨hg.os.trans h.os, hg.tape.trans h.tape, hg.output.trans h.output, Nat.le_trans h.size hg.size, fun k hk hb => (hg.block k (Nat.lt_of_lt_of_le hk h.size) fun e => by have := hr k e.symm; omega).trans (h.block k hk hb)⟩
/-- w' is w but for block G and new ones, and reads as wr at the blocks of a list; block G is a computation's memory -/
structure TK (w wr : World) (L : List Nat) (G : Nat) (bad : Bool) (w' : World) : Prop where
  touch : Touch G (G + 1) w w'
  same : ∀ b ∈ L, b < w'.heap.size ∧ w'.heap[b]? = wr.heap[b]?
  cur : Cur w' G bad
theorem TK.drew {w wr w' : World} {L : List Nat} {G : Nat} {bad : Bool} (h : TK w wr L G bad w') : TK w wr L G bad w'.drew := ⟨h.touch.drew, h.same, h.cur.drew⟩
theorem TK.call {w wr w' w2 : World} {L : List Nat} {G : Nat} {bad : Bool} (h : TK w wr L G bad w') (hb : Below w'.heap.size w' w2) : TK w wr L G bad w2 :=
  ⟨h.touch.call hb, fun b hL => ⟨Nat.lt_of_lt_of_le (h.same b hL).1 hb.size, (hb.block b (h.same b hL).1).trans (h.same b hL).2⟩, h.cur.below hb h.cur.lt⟩
theorem TK.alloc {w wr w' : World} {L : List Nat} {G : Nat} {bad : Bool} (h : TK w wr L G bad w') (o : Obj) : TK w wr L G bad (w'.alloc o) := h.call (Below.alloc (Below.refl _ _) (Nat.le_refl _) o)
theorem TK.mul {w wr w' w2 : World} {L : List Nat} {G : Nat} {bad bad' : Bool} (h : TK w wr L G bad w') (ht : Touch G (G + 1) w' w2) (hn : ∀ b ∈ L, b ≠ G) (hc : Cur w2 G bad') : TK w wr L G bad' w2 :=
  ⟨h.touch.trans ht, fun b hL => ⟨Nat.lt_of_lt_of_le (h.same b hL).1 ht.size, (ht.block b (h.same b hL).1 (by have := hn b hL; omega)).trans (h.same b hL).2⟩, hc⟩
theorem TK.grown {w wr w' w2 : World} {L : List Nat} {G : Nat} {bad : Bool} {row : Option Nat} (h : TK w wr L G bad w') (hg : w'.grownBy w2 row) (hr : ∀ k, row = some k → w.heap.size ≤ k ∧ G ≠ k ∧ ∀ b ∈ L, b ≠ k) : TK w wr L G bad w2 :=
  ⟨h.touch.grown hg fun k hk => (hr k hk).1, fun b hL => ⟨Nat.lt_of_lt_of_le (h.same b hL).1 hg.size, (hg.block b (h.same b hL).1 fun e => (hr b e.symm).2.2 b hL rfl).trans (h.same b hL).2⟩,
    Nat.lt_of_lt_of_le h.cur.lt hg.size, (World.cell?_of_block (a := ⟨G, 0, none⟩) (hg.block G h.cur.lt fun e => (hr G e.symm).2.1 rfl)).trans h.cur.cell, (World.frozen?_of_block (a := ⟨G, 0, none⟩) (hg.block G h.cur.lt fun e => (hr G e.symm).2.1 rfl)).trans h.cur.free⟩
theorem TK.set {w wr w' : World} {L L' : List Nat} {G : Nat} {bad : Bool} (h : TK w wr L G bad w') {p : Addr} (hp : w.heap.size ≤ p.block ∧ G ≠ p.block) (hL : ∀ b ∈ L', b ∈ L ∧ b ≠ p.block) (u : Value) : TK w wr L' G bad (w'.setCell p u) :=
  ⟨h.touch.setNew hp.1 u, fun b hb => ⟨by simpa [World.setCell] using (h.same b (hL b hb).1).1, (Below.heap_setCell w' p u b (hL b hb).2).trans (h.same b (hL b hb).1).2⟩, h.cur.far hp.2 u⟩
theorem TK.rebase {w wr wr' w' : World} {L L' : List Nat} {G : Nat} {bad : Bool} (h : TK w wr L G bad w') (hL : ∀ b ∈ L', b < w'.heap.size ∧ w'.heap[b]? = wr'.heap[b]?) : TK w wr' L' G bad w' := ⟨h.touch, hL, h.cur⟩
theorem TK.cells {w wr w' : World} {L : List Nat} {G : Nat} {bad : Bool} (h : TK w wr L G bad w') {b : Nat} (hb : b ∈ L) : ∀ o, w'.cell? ⟨b, o, none⟩ = wr.cell? ⟨b, o, none⟩ := fun o => World.cell?_of_block (a := ⟨b, o, none⟩) (h.same b hb).2
theorem TK.row {w wr w' : World} {L : List Nat} {G : Nat} {bad : Bool} (h : TK w wr L G bad w') {b : Nat} {x : Obj} (hb : b ∈ L) (hx : wr.heap[b]? = some x) : w'.heap[b]? = some x := ((h.same b hb).2).trans hx
theorem FlatAt.touch {lo hi : Nat} {w w' : World} {A : Option Addr} {zs : List Int} (h : FlatAt w A zs) (ht : Touch lo hi w w') (hn : ∀ a, A = some a → a.block < lo ∨ hi ≤ a.block) : FlatAt w' A zs := by
  intro j z hz
  obtain ⟨b, off, h1, h2, h3⟩ := h j z hz
  exact ⟨b, off, h1, Nat.lt_of_lt_of_le h2 ht.size, (ht.cell b _ h2 (hn _ h1)).trans h3⟩
def kronMk (C R2 C2 : Nat) (xs ys : List D5) (i j : Nat) : Bool := mulOk (atD C xs (i / R2) (j / C2)) (atD C2 ys (i % R2) (j % C2))
theorem kronMk_ok {R C R2 C2 : Nat} {xs ys : List D5} (hl : xs.length = R * C) (hl2 : ys.length = R2 * C2) (h1 : xs.all dOkD = true) (h2 : ys.all dOkD = true) :
    okM (C * C2) (R * R2 * (C * C2)) (kronMk C R2 C2 xs ys) = okM (C * C2) (R * R2 * (C * C2)) (kronOk C R2 C2 xs ys) := by
  rw [Bool.eq_iff_iff, okM, okM, List.all_eq_true, List.all_eq_true]
  have key : ∀ t ∈ List.range (R * R2 * (C * C2)), kronMk C R2 C2 xs ys (t / (C * C2)) (t % (C * C2)) = kronOk C R2 C2 xs ys (t / (C * C2)) (t % (C * C2)) := by
    intro t ht
    have ht := List.mem_range.1 ht
    have hi : t / (C * C2) < R * R2 := Nat.div_lt_of_lt_mul (by rw [Nat.mul_comm]; exact ht)
    have hj : t % (C * C2) < C * C2 := mod_lt' (R := R * R2) ht
    unfold kronMk kronOk
    rw [all_at hl (div_lt hi) (div_lt hj) h1, all_at hl2 (mod_lt' hi) (mod_lt' hj) h2]
    rfl
  exact ⟨fun h t ht => by rw [← key t ht]; exact h t ht, fun h t ht => by rw [key t ht]; exact h t ht⟩

set_option maxRecDepth 100000 in
set_option maxHeartbeats 16000000 in
theorem l2cKron_any (G : Nat) (R C R2 C2 : Nat) (A : Option Addr) (cap : Nat) (xs : List D5) (A2 : Option Addr) (cap2 : Nat) (ys : List D5) (w : World) (hcur : Hid (Cur w G false)) (hR : R ≤ 32) (hC : C ≤ 32) (hl : xs.length = R * C) (hR2 : R2 ≤ 32) (hC2 : C2 ≤ 32) (hl2 : ys.length = R2 * C2) (hRR : R * R2 ≤ 32) (hCC : C * C2 ≤ 32)
    (hall : xs.all dOkD = true) (hall2 : ys.all dOkD = true) (hx : Hid (FlatAt w A (flatD xs))) (hy : Hid (FlatAt w A2 (flatD ys))) (hxG : Hid (∀ a, A = some a → a.block ≠ G)) (hyG : Hid (∀ a, A2 = some a → a.block ≠ G)) :
    Calls Try.prog 105 #[.pointer (some ⟨G, 0, none⟩), mv (R : Int) (C : Int) A xs.length cap, mv (R2 : Int) (C2 : Int) A2 ys.length cap2] w fun e w' =>
      ∃ (A' : Option Addr) (cap' : Nat), e = .returned (mv ((R * R2 : Nat) : Int) ((C * C2 : Nat) : Int) A' (kronL R C R2 C2 xs ys).length cap') ∧ FlatIn w' A' (flatD (kronL R C R2 C2 xs ys)) w.heap.size w'.heap.size ∧ Cur w' G (!okM (C * C2) (R * R2 * (C * C2)) (kronMk C R2 C2 xs ys)) ∧ Touch G (G + 1) w w' := by
  have hGlt := hcur.out.lt
  have Hl := Lib.hid hl
  have Hl2 := Lib.hid hl2
  have Hall := Lib.hid hall
  have Hall2 := Lib.hid hall2
  clear hl hl2 hall hall2
  have mR : (R : Int) * (R2 : Int) = ((R * R2 : Nat) : Int) := (Int.natCast_mul R R2).symm
  have mC : (C : Int) * (C2 : Int) = ((C * C2 : Nat) : Int) := (Int.natCast_mul C C2).symm
  have HkL : Hid (kronL R C R2 C2 xs ys = cellsM (C * C2) (R * R2 * (C * C2)) (kronC C R2 C2 xs ys)) := rfl
  rw [HkL.out]
  clear HkL
  obtain ⟨N, hN⟩ : ∃ N, N = R * R2 := ⟨_, rfl⟩
  obtain ⟨M, hM⟩ : ∃ M, M = C * C2 := ⟨_, rfl⟩
  have HN := Lib.hid hN
  have HM := Lib.hid hM
  rw [← hN] at mR hRR ⊢
  rw [← hM] at mC hCC ⊢
  have wR : IntKind.wrap .i64 (N : Int) = (N : Int) := IntWalk.i64_in _ (by omega)
  have wC : IntKind.wrap .i64 (M : Int) = (M : Int) := IntWalk.i64_in _ (by omega)
  have wR' : RowKit.wrap64 (N : Int) = (N : Int) := IntWalk.wrap64_in _ (by omega)
  have wC' : RowKit.wrap64 (M : Int) = (M : Int) := IntWalk.wrap64_in _ (by omega)
  clear hN hM
  obtain ⟨i0, hi, hz0, hz1, hz2⟩ := info_parts Try.infoDyadic
  go_enter Try.func105, Try.ntmps105
  go_wp2_with fail
  generalize hW0 : (((w.alloc (.cells #[.int .i64 (R : Int), .int .i64 (C : Int), .slice A xs.length cap] 67)).alloc (.cells #[.int .i64 (R2 : Int), .int .i64 (C2 : Int), .slice A2 ys.length cap2] 67)).alloc (.cells #[.int .i64 0, .int .i64 0, .slice none 0 0] 67)).alloc (.cells #[.int .i64 (N : Int), .int .i64 (M : Int), .slice none 0 0] 67) = W0
  have B0 : Below w.heap.size w W0 := by rw [← hW0]; go_grown
  have HA : Hid (W0.heap[w.heap.size]? = some (.cells #[.int .i64 (R : Int), .int .i64 (C : Int), .slice A xs.length cap] 67 (0, 0))) := by
    rw [← hW0]
    exact (Below.heap_alloc _ _ _ (by go_size)).trans ((Below.heap_alloc _ _ _ (by go_size)).trans ((Below.heap_alloc _ _ _ (by go_size)).trans (heap_top _ _ rfl)))
  have HB : Hid (W0.heap[w.heap.size + 1]? = some (.cells #[.int .i64 (R2 : Int), .int .i64 (C2 : Int), .slice A2 ys.length cap2] 67 (0, 0))) := by
    rw [← hW0]
    exact (Below.heap_alloc _ _ _ (by go_size)).trans ((Below.heap_alloc _ _ _ (by go_size)).trans (heap_top _ _ (by simp)))
  have HZ : Hid (Zero3 W0 (w.heap.size + 1 + 1)) := by
    rw [← hW0]
    exact (Below.heap_alloc _ _ _ (by go_size)).trans (heap_top _ _ (by simp))
  have HM0 : Hid (Made W0 (w.heap.size + 1 + 1 + 1) (w.heap.size + 1 + 1 + 1 + 1) N M []) := by
    rw [← hW0]
    exact ⟨none, 0, heap_top _ _ (by simp), World.ownsRow_nil _ _ _ _⟩
  have HS : Hid (W0.heap.size = w.heap.size + 1 + 1 + 1 + 1) := by rw [← hW0]; show _ = _; simp
  have HT : Hid (TK w W0 [w.heap.size, w.heap.size + 1, w.heap.size + 1 + 1] G false W0) := by
    refine ⟨Touch.of_below B0 (Nat.le_refl _) _ _, fun b hb => ⟨?_, rfl⟩, hcur.out.below B0 hGlt⟩
    have := HS.out
    simp only [List.mem_cons, List.not_mem_nil, or_false] at hb
    omega
  have hNM : N * M ≤ 1024 := Nat.mul_le_mul hRR hCC
  clear hW0
  go_loopg [8] N (fun gk s wr => ∃ i : Nat, s = .int .i64 i ∧ i + gk = N ∧ Made wr (w.heap.size + 1 + 1 + 1) (w.heap.size + 1 + 1 + 1 + 1) N M (cellsM M (i * M) (kronC C R2 C2 xs ys)) ∧ TK w W0 [w.heap.size, w.heap.size + 1, w.heap.size + 1 + 1] G (!okM M (i * M) (kronMk C R2 C2 xs ys)) wr)
  case atStart => exact ⟨0, rfl, by omega, by rw [Nat.zero_mul]; exact HM0.out, by rw [Nat.zero_mul]; exact HT.out⟩
  case round =>
    obtain ⟨i, rfl, hig, hmi, hti⟩ := hrel
    have Hmi := Lib.hid hmi
    have Hti := Lib.hid hti
    obtain ⟨Ai, capi, hbi, _⟩ := hmi
    have ki0 := cell_of_row wr (w.heap.size + 1 + 1 + 1) 0 _ _ _ hbi
    have ki1 := cell_of_row wr (w.heap.size + 1 + 1 + 1) 1 _ _ _ hbi
    clear hti
    by_cases hilt : i < N
    · go_wp2_with fail
      go_loopg [9] M (fun gk s wr => ∃ j : Nat, s = .int .i64 j ∧ j + gk = M ∧ Made wr (w.heap.size + 1 + 1 + 1) (w.heap.size + 1 + 1 + 1 + 1) N M (cellsM M (i * M + j) (kronC C R2 C2 xs ys)) ∧ TK w W0 [w.heap.size, w.heap.size + 1, w.heap.size + 1 + 1] G (!okM M (i * M + j) (kronMk C R2 C2 xs ys)) wr)
      case atStart => exact ⟨0, rfl, by omega, Hmi.out, Hti.out⟩
      case round =>
        clear ki0 ki1 hbi
        obtain ⟨j, rfl, hjg, hm, ht⟩ := hrel
        have T := Lib.hid ht
        have Hm := Lib.hid hm
        obtain ⟨A', cap', hb2, hown⟩ := hm
        have zb2 : w.heap.size + 1 + 1 + 1 < wr.heap.size := (Array.getElem?_eq_some_iff.1 hb2).1
        have k1 := cell_of_row wr (w.heap.size + 1 + 1 + 1) 1 _ _ _ hb2
        have Hb2 := Lib.hid hb2
        have Hown := Lib.hid hown
        clear hb2 hown ht
        by_cases hjlt : j < M
        · have hij : i * M + j < N * M := idx_lt rfl hilt hjlt
          have hp : i / R2 < R := div_lt (by rw [← HN.out]; exact hilt)
          have hq : j / C2 < C := div_lt (by rw [← HM.out]; exact hjlt)
          have hu : i % R2 < R2 := mod_lt' (R := R) (by rw [← HN.out]; exact hilt)
          have hv : j % C2 < C2 := mod_lt' (R := C) (by rw [← HM.out]; exact hjlt)
          have e1 : (i : Int).tdiv (R2 : Int) = ((i / R2 : Nat) : Int) := rfl
          have e2 : (j : Int).tdiv (C2 : Int) = ((j / C2 : Nat) : Int) := rfl
          have e3 : (i : Int).tmod (R2 : Int) = ((i % R2 : Nat) : Int) := rfl
          have e4 : (j : Int).tmod (C2 : Int) = ((j % C2 : Nat) : Int) := rfl
          have Hst := Lib.hid (okM_step (kronMk C R2 C2 xs ys) (i := i) hjlt)
          have Hsc := Lib.hid (cellsM_step (kronC C R2 C2 xs ys) (i := i) hjlt)
          have hmk : kronMk C R2 C2 xs ys i j = mulOk (atD C xs (i / R2) (j / C2)) (atD C2 ys (i % R2) (j % C2)) := rfl
          have hkc : kronC C R2 C2 xs ys i j = mulC (atD C xs (i / R2) (j / C2)) (atD C2 ys (i % R2) (j % C2)) := rfl
          generalize i / R2 = p at hp e1 hmk hkc
          generalize j / C2 = q at hq e2 hmk hkc
          generalize i % R2 = u at hu e3 hmk hkc
          generalize j % C2 = v at hv e4 hmk hkc
          obtain ⟨x, hx0⟩ : ∃ x, x = atD C xs p q := ⟨_, rfl⟩
          obtain ⟨y, hy0⟩ : ∃ y, y = atD C2 ys u v := ⟨_, rfl⟩
          rw [← hx0, ← hy0] at hmk hkc
          have Hmk := Lib.hid hmk
          have Hkc := Lib.hid hkc
          have hxd : Hid (dOkD x = true) := by show dOkD x = true; rw [hx0]; exact all_at Hl.out hp hq Hall.out
          have hyd : Hid (dOkD y = true) := by show dOkD y = true; rw [hy0]; exact all_at Hl2.out hu hv Hall2.out
          obtain ⟨n1, hn1⟩ : ∃ n1 : Nat, n1 = p * C + q := ⟨_, rfl⟩
          obtain ⟨n2, hn2⟩ : ∃ n2 : Nat, n2 = u * C2 + v := ⟨_, rfl⟩
          have hxn : xs[n1]? = some x := by rw [hn1, hx0]; exact atD_some Hl.out hp hq
          have hyn : ys[n2]? = some y := by rw [hn2, hy0]; exact atD_some Hl2.out hu hv
          have m1 : (p : Int) * (C : Int) = ((p * C : Nat) : Int) := (Int.natCast_mul p C).symm
          have m2 : (u : Int) * (C2 : Int) = ((u * C2 : Nat) : Int) := (Int.natCast_mul u C2).symm
          have b1 : p * C ≤ 1024 := Nat.mul_le_mul (show p ≤ 32 by omega) hC
          have b2 : u * C2 ≤ 1024 := Nat.mul_le_mul (show u ≤ 32 by omega) hC2
          generalize p * C = pc at hn1 m1 b1
          generalize u * C2 = uc at hn2 m2 b2
          have s1 : (pc : Int) + (q : Int) = (n1 : Int) := by omega
          have s2 : (uc : Int) + (v : Int) = (n2 : Int) := by omega
          have g1 : (0 : Int) ≤ (n1 : Int) := by omega
          have g2 : (0 : Int) ≤ (n2 : Int) := by omega
          have l1 : (n1 : Int) < (xs.length : Int) := by have := (List.getElem?_eq_some_iff.1 hxn).1; omega
          have l2 : (n2 : Int) < (ys.length : Int) := by have := (List.getElem?_eq_some_iff.1 hyn).1; omega
          have q1 : IntKind.wrap .i64 (p : Int) = (p : Int) := IntWalk.i64_in _ (by omega)
          have q2 : IntKind.wrap .i64 (q : Int) = (q : Int) := IntWalk.i64_in _ (by omega)
          have q3 : IntKind.wrap .i64 (u : Int) = (u : Int) := IntWalk.i64_in _ (by omega)
          have q4 : IntKind.wrap .i64 (v : Int) = (v : Int) := IntWalk.i64_in _ (by omega)
          have q5 : IntKind.wrap .i64 (pc : Int) = (pc : Int) := IntWalk.i64_in _ (by omega)
          have q6 : IntKind.wrap .i64 (uc : Int) = (uc : Int) := IntWalk.i64_in _ (by omega)
          have q7 : IntKind.wrap .i64 (n1 : Int) = (n1 : Int) := IntWalk.i64_in _ (by omega)
          have q8 : IntKind.wrap .i64 (n2 : Int) = (n2 : Int) := IntWalk.i64_in _ (by omega)
          have z1 : ((R2 : Int) == 0) = false := by simp; omega
          have z2 : ((C2 : Int) == 0) = false := by simp; omega
          have z3 : ¬ (R2 : Int) = 0 := by omega
          have z4 : ¬ (C2 : Int) = 0 := by omega
          have z5 : ¬ R2 = 0 := by omega
          have z6 : ¬ C2 = 0 := by omega
          obtain ⟨b, off, rfl, hbl, hcx⟩ := (hx.out.touch T.out.touch (fun a e => by have := hxG.out a e; omega)).five hxn
          obtain ⟨c0, c1, c2, c3, c4⟩ := hcx
          have a0 := cell_of_row wr w.heap.size 0 _ _ _ (T.out.row (by simp) HA.out)
          have a1 := cell_of_row wr w.heap.size 1 _ _ _ (T.out.row (by simp) HA.out)
          have a2 := cell_of_row wr w.heap.size 2 _ _ _ (T.out.row (by simp) HA.out)
          have d0 := cell_of_row wr (w.heap.size + 1) 0 _ _ _ (T.out.row (by simp) HB.out)
          have d1 := cell_of_row wr (w.heap.size + 1) 1 _ _ _ (T.out.row (by simp) HB.out)
          have hzw1 : w.heap.size < wr.heap.size := by omega
          have hzw2 : w.heap.size + 1 < wr.heap.size := by omega
          clear hx0 hy0 hn1 hn2 hxn hmk hkc
          go_upto_region 8 with fail
          go_cut [10] (fun s wx => s = .pointer (some ⟨wr.heap.size, 0, none⟩) ∧ LocD wx wr.heap.size x ∧ Below wr.heap.size wr wx)
          case first =>
            go_region_held3 (fun w' => (∀ b o, b < wr.heap.size → w'.cell? ⟨b, o, none⟩ = wr.cell? ⟨b, o, none⟩) ∧ Below wr.heap.size wr w') ((refine SB_mk ?_; go_grown)) (fail)
            all_goals
              go_wp2_with fail
              go_meet
              exact ⟨rfl, ⟨by go_size, by go_simp, by go_simp, by go_simp, by go_simp, by go_simp⟩, by go_grown⟩
          case rest =>
            obtain ⟨w5, rfl⟩ : ∃ w5 : World, w5 = wc := ⟨_, rfl⟩
            obtain ⟨rfl, hX5, b5⟩ := hcut
            have HX5 := Lib.hid hX5
            have T5 := Lib.hid (T.out.call b5)
            have zs5 := b5.size
            have Hb5 := Lib.hid ((b5.block _ zb2).trans Hb2.out)
            have Hown5 := Lib.hid (owns_below Hown.out b5)
            have zX5 : wr.heap.size < w5.heap.size := hX5.1
            clear c0 c1 c2 c3 c4 a0 a1 a2 d0 d1 k1 hX5 b5
            obtain ⟨b', off', rfl, hbl', hcy⟩ := (hy.out.touch T5.out.touch (fun a e => by have := hyG.out a e; omega)).five hyn
            obtain ⟨c0, c1, c2, c3, c4⟩ := hcy
            have d0 := cell_of_row w5 (w.heap.size + 1) 0 _ _ _ (T5.out.row (by simp) HB.out)
            have d1 := cell_of_row w5 (w.heap.size + 1) 1 _ _ _ (T5.out.row (by simp) HB.out)
            have d2 := cell_of_row w5 (w.heap.size + 1) 2 _ _ _ (T5.out.row (by simp) HB.out)
            have hzw3 : w.heap.size + 1 < w5.heap.size := by omega
            clear hyn
            go_upto_region 9 with fail
            go_cut [11] (fun s wx => s = .pointer (some ⟨w5.heap.size, 0, none⟩) ∧ LocD wx w5.heap.size y ∧ Below w5.heap.size w5 wx)
            case first =>
              go_region_held3 (fun w' => (∀ b o, b < w5.heap.size → w'.cell? ⟨b, o, none⟩ = w5.cell? ⟨b, o, none⟩) ∧ Below w5.heap.size w5 w') ((refine SB_mk ?_; go_grown)) (fail)
              all_goals
                go_wp2_with fail
                go_meet
                exact ⟨rfl, ⟨by go_size, by go_simp, by go_simp, by go_simp, by go_simp, by go_simp⟩, by go_grown⟩
            case rest =>
              obtain ⟨w6, rfl⟩ : ∃ w6 : World, w6 = wc := ⟨_, rfl⟩
              obtain ⟨rfl, hY6, b6⟩ := hcut
              have zs6 := b6.size
              have zY6 : w5.heap.size < w6.heap.size := hY6.1
              have HX6 := Lib.hid (HX5.out.call b6)
              have HY6 := Lib.hid hY6
              have T6 := Lib.hid (T5.out.call b6)
              have Hb6 := Lib.hid ((b6.block _ (by omega)).trans Hb5.out)
              have Hown6 := Lib.hid (owns_below Hown5.out b6)
              clear c0 c1 c2 c3 c4 d0 d1 d2 hY6 b6
              have hlen : (cellsM M (i * M + j) (kronC C R2 C2 xs ys)).length ≤ 1024 := by
                rw [cellsM_len]
                omega
              have Hrow : Hid (∀ kk, (Value.slice A' (cellsM M (i * M + j) (kronC C R2 C2 xs ys)).length cap').ownBlock = some kk → w.heap.size ≤ kk ∧ G ≠ kk ∧ ∀ b ∈ [w.heap.size, w.heap.size + 1, w.heap.size + 1 + 1, w.heap.size + 1 + 1 + 1, wr.heap.size, w5.heap.size], b ≠ kk) := fun kk hk => by
                have := Hown.out.lt kk hk
                refine ⟨by omega, by omega, fun b hb => ?_⟩
                simp only [List.mem_cons, List.not_mem_nil, or_false] at hb
                omega
              have K0 : Hid (TK w w6 [w.heap.size, w.heap.size + 1, w.heap.size + 1 + 1, w.heap.size + 1 + 1 + 1, wr.heap.size, w5.heap.size] G (!okM M (i * M + j) (kronMk C R2 C2 xs ys)) w6) := T6.out.rebase (fun b hb => ⟨by
                simp only [List.mem_cons, List.not_mem_nil, or_false] at hb
                omega, rfl⟩)
              have Hne : Hid (∀ b ∈ [w.heap.size, w.heap.size + 1, w.heap.size + 1 + 1, w.heap.size + 1 + 1 + 1, wr.heap.size, w5.heap.size], b ≠ G) := fun b hb => by
                simp only [List.mem_cons, List.not_mem_nil, or_false] at hb
                omega
              have k2 := cell_of_row w6 (w.heap.size + 1 + 1 + 1) 2 _ _ _ Hb6.out
              have kf := frozen_of_row w6 (w.heap.size + 1 + 1 + 1) 2 _ _ Hb6.out
              obtain ⟨d0, d1, d2, d3, d4⟩ := HX6.out.five
              obtain ⟨h0, h1, h2, h3, h4⟩ := HY6.out.five
              have zw1 : w.heap.size + 1 + 1 + 1 < w6.heap.size := by omega
              have zw2 : wr.heap.size < w6.heap.size := by omega
              clear e1 e2 e3 e4 m1 m2 s1 s2 g1 g2 l1 l2 q1 q2 q3 q4 q5 q6 q7 q8 z1 z2 z3 z4 z5 z6 mR mC wR wC wR' wC' hp hq hu hv hzw1 hzw2 hzw3 hbl hbl' hij b1 b2 HX5 HX6 HY6 T5 Hb5 Hown5
              go_upto_region 10 with fail
              go_region_law (first | (go_simp; go_at_call 96; refine (l2cMulD_any G _ x y _ (by first | exact Lib.hid K0.out.cur | exact Lib.hid (Cur.drew K0.out.cur)) hxd.out hyd.out).mono ?_; rintro e wA ⟨rfl, cA', tA'⟩; have tA : Touch G (G + 1) w6 wA := (by first | exact tA' | exact ⟨tA'.os, tA'.tape, tA'.output, tA'.size, tA'.block⟩); have KA := Lib.hid (TK.mul K0.out tA Hne.out cA'); have HownA := Lib.hid (owns_touch Hown6.out tA (by omega)); have fA := KA.out.cells (b := w.heap.size + 1 + 1 + 1) (by simp); have fB := KA.out.cells (b := wr.heap.size) (by simp); have fC := KA.out.cells (b := w5.heap.size) (by simp); have zA := tA.size; have zA1 : w.heap.size + 1 + 1 + 1 < wA.heap.size := (by omega); have zA2 : wr.heap.size < wA.heap.size := (by omega); have zA3 : w5.heap.size < wA.heap.size := (by omega); clear tA tA' cA') | (refine step_append_lies _ rfl _ _ _ rfl (w.heap.size + 1 + 1 + 1 + 1) 52 i0 (dv 0 0 0 0 0) 5 40 Try.underlying65 hi hz0 hz1 hz2 rfl (by decide) (.slice A' (cellsM M (i * M + j) (kronC C R2 C2 xs ys)).length cap') (cellsM M (i * M + j) (kronC C R2 C2 xs ys)).length ((flatD (cellsM M (i * M + j) (kronC C R2 C2 xs ys))).map (Value.int .i64)) rfl (by first | exact HownA.out.alloc _ | exact World.ownsRow.drew (HownA.out.alloc _) | exact (World.ownsRow.drew HownA.out).alloc _) _ 1 1 [.int .i64 (mulC x y).1.1, .int .i64 (mulC x y).1.2.1, .int .i64 (mulC x y).1.2.2.1, .int .i64 (mulC x y).1.2.2.2, .int .i64 (mulC x y).2] rfl rfl (World.news_of_block (heap_top _ _ (by simp))) (by intro u hu; simp at hu; rcases hu with rfl | rfl | rfl | rfl | rfl <;> rfl) (by decide) (by unfold maxLen; omega) (by omega) (by simp; omega) _ rfl ?_; intro g cap2' w3 hown' hgrow hat hlt3; have K3 := Lib.hid (by first | exact TK.grown (TK.alloc KA.out _) hgrow Hrow.out | exact TK.grown (TK.drew (TK.alloc KA.out _)) hgrow Hrow.out : TK w w6 [w.heap.size, w.heap.size + 1, w.heap.size + 1 + 1, w.heap.size + 1 + 1 + 1, wr.heap.size, w5.heap.size] G _ w3); have hb3 := Lib.hid (K3.out.row (by simp) Hb6.out); have ho' := Lib.hid hown'; clear hown' hgrow; have k3 := cell_of_row w3 (w.heap.size + 1 + 1 + 1) 2 _ _ _ hb3.out; have k3f := frozen_of_row w3 (w.heap.size + 1 + 1 + 1) 2 _ _ hb3.out))
              all_goals
                go_wp2
                go_roundg (M - (j + 1))
                case measure => omega
                case rel =>
                  refine ⟨j + 1, by go_num, by omega, ?_, ?_⟩
                  · rw [← Nat.add_assoc, Hsc.out, Hkc.out]
                    exact Made.push hb3.out ho'.out (by omega)
                  · rw [← Nat.add_assoc, Hst.out, Hmk.out, Bool.not_and]
                    refine (TK.set (L' := [w.heap.size, w.heap.size + 1, w.heap.size + 1 + 1]) K3.out ⟨by dsimp only; omega, by dsimp only; omega⟩ (fun b hb => ?_) _).rebase (fun b hb => ?_)
                    · simp only [List.mem_cons, List.not_mem_nil, or_false] at hb ⊢
                      omega
                    · have h3 : b ∈ [w.heap.size, w.heap.size + 1, w.heap.size + 1 + 1, w.heap.size + 1 + 1 + 1, wr.heap.size, w5.heap.size] := by
                        simp only [List.mem_cons, List.not_mem_nil, or_false] at hb ⊢
                        omega
                      refine ⟨by simpa [World.setCell] using (K3.out.same b h3).1, (Below.heap_setCell _ _ _ _ ?_).trans (((K3.out.same b h3).2).trans (T6.out.same b hb).2)⟩
                      simp only [List.mem_cons, List.not_mem_nil, or_false] at hb
                      try dsimp only
                      omega
        · have hjM : j = M := Nat.le_antisymm (hjg ▸ Nat.le_add_right _ _) (Nat.le_of_not_lt hjlt)
          subst hjM
          go_wp2
          go_roundg (N - (i + 1))
          case measure => omega
          case rel => exact ⟨i + 1, by go_num, by omega, by rw [Nat.succ_mul]; exact Hm.out, by rw [Nat.succ_mul]; exact T.out⟩
    · have hiN : i = N := Nat.le_antisymm (hig ▸ Nat.le_add_right _ _) (Nat.le_of_not_lt hilt)
      subst hiN
      obtain ⟨A', cap', hb2, hown⟩ := Hmi.out
      have k2 := cell_of_row wr (w.heap.size + 1 + 1 + 1) 2 _ _ _ hb2
      have zb2 : w.heap.size + 1 + 1 + 1 < wr.heap.size := (Array.getElem?_eq_some_iff.1 hb2).1
      have Hown := Lib.hid hown
      have hzr := Hti.out.row (b := w.heap.size + 1 + 1) (by simp) HZ.out
      have q0 := cell_of_row wr (w.heap.size + 1 + 1) 0 _ _ _ hzr
      have q1 := cell_of_row wr (w.heap.size + 1 + 1) 1 _ _ _ hzr
      have q2 := cell_of_row wr (w.heap.size + 1 + 1) 2 _ _ _ hzr
      have qf := fun o => frozen_of_row wr (w.heap.size + 1 + 1) o _ _ hzr
      clear hb2 hown hzr
      go_wp2
      refine bodyPost_ret (by simp [results, Try.results105, go_sem, q0, q1, q2]) rfl ⟨A', cap', rfl, ?_, ?_, ?_⟩
      · refine FlatIn.mono (lo := w.heap.size + 1 + 1 + 1 + 1) (hi := wr.heap.size) ?_ (by omega) (by go_size) (Nat.le_refl _)
        repeat (refine FlatIn.setFar ?_ (by dsimp only; omega) _)
        exact FlatIn.of_owns Hown.out rfl
      · repeat (refine Cur.far ?_ (by dsimp only; omega) _)
        exact Hti.out.cur
      · repeat (refine Touch.setNew ?_ (by dsimp only; omega) _)
        exact Hti.out.touch
end Go.Proofs.Ytcmkkjdleihjfaa
