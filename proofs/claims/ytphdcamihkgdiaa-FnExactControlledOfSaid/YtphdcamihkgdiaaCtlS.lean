/- ControlledOf of the reference. -/
import Derived.Test.YtphdcamihkgdiaaCtlM
import Derived.Test.YtphdcamihkgdiaaIdS
import Derived.StillTailTactics
namespace Go.Proofs.Ytphdcamihkgdiaa
open Go.RowKit

/-- the cells when p of the matrix's own have been stored -/
def ctlTo (n : Nat) (xs : List D5) (p a b : Nat) : D5 := if n ≤ a ∧ n ≤ b ∧ (a - n) * n + (b - n) < p then atD n xs (a - n) (b - n) else ijD a b
theorem ctl_zero (n C m : Nat) (xs : List D5) : cellsM C m (ctlTo n xs 0) = cellsM C m ijD := cellsM_congr (by intro i j; simp [ctlTo])
theorem ctl_all (n : Nat) (xs : List D5) : cellsM (2 * n) (2 * n * (2 * n)) (ctlTo n xs (n * n)) = ctlL n xs := by
  unfold ctlL cellsM
  refine List.map_congr_left fun t ht => ?_
  have h := List.mem_range.1 ht
  have h1 : t / (2 * n) < 2 * n := Nat.div_lt_of_lt_mul h
  have hp : 0 < 2 * n := by
    rcases Nat.eq_zero_or_pos n with h0 | h0
    · subst h0
      simp at h
    · omega
  have h2 : t % (2 * n) < 2 * n := Nat.mod_lt _ hp
  unfold ctlTo ctlD
  by_cases hc : n ≤ t / (2 * n) ∧ n ≤ t % (2 * n)
  · rw [if_pos hc, if_pos ⟨hc.1, hc.2, idx_lt rfl (by omega) (by omega)⟩]
  · rw [if_neg hc, if_neg (fun h => hc ⟨h.1, h.2.1⟩)]
theorem ctl_step {n i j : Nat} (xs : List D5) (hi : i < n) (hj : j < n) : (cellsM (2 * n) (2 * n * (2 * n)) (ctlTo n xs (i * n + j))).set ((n + i) * (2 * n) + (n + j)) (atD n xs i j) = cellsM (2 * n) (2 * n * (2 * n)) (ctlTo n xs (i * n + j + 1)) := by
  apply List.ext_getElem?
  intro t
  rw [List.getElem?_set]
  have hlt : (n + i) * (2 * n) + (n + j) < 2 * n * (2 * n) := idx_lt rfl (by omega) (by omega)
  by_cases ht : t < 2 * n * (2 * n)
  · have e : ∀ f : Nat → Nat → D5, (cellsM (2 * n) (2 * n * (2 * n)) f)[t]? = some (f (t / (2 * n)) (t % (2 * n))) := fun f => by simp [cellsM, ht]
    rw [e, e]
    by_cases h : (n + i) * (2 * n) + (n + j) = t
    · rw [if_pos h, if_pos (by rw [cellsM_len]; exact hlt)]
      obtain ⟨h1, h2⟩ := idx_div (i := n + i) (j := n + j) (C := 2 * n) (by omega)
      rw [← h, h1, h2]
      have a1 : n + i - n = i := by omega
      have a2 : n + j - n = j := by omega
      unfold ctlTo
      rw [a1, a2, if_pos ⟨by omega, by omega, by omega⟩]
    · rw [if_neg h]
      congr 1
      have hd := Nat.div_add_mod t (2 * n)
      have h2 : t % (2 * n) < 2 * n := Nat.mod_lt _ (by omega)
      unfold ctlTo
      have : (n ≤ t / (2 * n) ∧ n ≤ t % (2 * n) ∧ (t / (2 * n) - n) * n + (t % (2 * n) - n) < i * n + j + 1) ↔ (n ≤ t / (2 * n) ∧ n ≤ t % (2 * n) ∧ (t / (2 * n) - n) * n + (t % (2 * n) - n) < i * n + j) := by
        constructor
        · rintro ⟨h3, h4, h5⟩
          refine ⟨h3, h4, ?_⟩
          rcases Nat.lt_or_ge ((t / (2 * n) - n) * n + (t % (2 * n) - n)) (i * n + j) with h6 | h6
          · exact h6
          · exfalso
            have h7 : (t / (2 * n) - n) * n + (t % (2 * n) - n) = i * n + j := by omega
            obtain ⟨d1, d2⟩ := idx_div (i := t / (2 * n) - n) (j := t % (2 * n) - n) (C := n) (by omega)
            obtain ⟨d3, d4⟩ := idx_div (i := i) (j := j) (C := n) hj
            rw [h7] at d1 d2
            have e1 : t / (2 * n) = n + i := by omega
            have e2 : t % (2 * n) = n + j := by omega
            apply h
            rw [← hd, e1, e2, Nat.mul_comm (2 * n)]
        · rintro ⟨h3, h4, h5⟩
          exact ⟨h3, h4, by omega⟩
      simp only [this]
  · rw [List.getElem?_eq_none (by rw [cellsM_len]; omega), List.getElem?_eq_none (by rw [cellsM_len]; omega)]
    split
    · next h => split <;> omega
    · rfl

/-- what the loops keep -/
def CtlI (w wr : World) (R : Nat) (A : Option Addr) (cap : Nat) (xs : List D5) (g lo P L cap' p : Nat) : Prop :=
  FlatIn wr (some ⟨g, 0, none⟩) (flatD (cellsM (2 * R) (2 * R * (2 * R)) (ctlTo R xs p))) lo P ∧ Zero3 wr (w.heap.size + 1) ∧ wr.heap[w.heap.size]? = some (.cells #[.int .i64 (R : Int), .int .i64 (R : Int), .slice A xs.length cap] 54 (0, 0)) ∧ wr.heap[P]? = some (.cells #[.int .i64 (2 * (R : Int)), .int .i64 (2 * (R : Int)), .slice (some ⟨g, 0, none⟩) L cap'] 54 (0, 0)) ∧ Below w.heap.size w wr

set_option maxRecDepth 100000 in
set_option maxHeartbeats 8000000 in
theorem specCtl_any (r c : Int) (A : Option Addr) (cap : Nat) (xs : List D5) (w : World) (hx : Hid (FlatAt w A (flatD xs))) :
    Calls Try.prog 39 #[mv r c A xs.length cap] w fun e w' => MRes e w w' (ctlOk r c xs) (2 * r) (2 * r) (ctlL r.toNat xs) := by
  rcases hok : mOk r c xs with _ | _
  · have Hno : Hid (ctlOk r c xs = false) := by show ctlOk r c xs = false; simp [ctlOk, hok]
    go_enter Try.func39, Try.ntmps39
    go_wp2_with fail
    refine (l3Good_any r c A cap xs _ ((hx.out.alloc _).alloc _)).mono ?_
    rintro e w1 ⟨rfl, b1⟩
    obtain ⟨b1c, b1f⟩ := bcell b1
    have z1 := b1.size
    try simp only [World.size_alloc] at z1
    have B1 : Below w.heap.size w w1 := Below.chain (Below.refl _ _) (by go_grown) b1 (by go_size)
    have y10 : w.heap.size < w1.heap.size := by omega
    have y11 : w.heap.size + 1 < w1.heap.size := by omega
    rw [hok]
    go_wp2
    refine bodyPost_ret (by simp [results, Try.results39, go_sem, b1c]) rfl (MRes.no Hno.out ?_)
    go_grown
  obtain ⟨R, C, rfl, rfl, hR1, hR, hC1, hC, hdr, hdc, hlen, hall⟩ := dims hok
  have Hlen := Lib.hid hlen
  have Hok := Lib.hid hok
  clear hlen hall hdc hok
  by_cases hrc : R = C
  case neg =>
    have hne : ¬ (R : Int) = (C : Int) := by omega
    have Hno : Hid (ctlOk R C xs = false) := by show ctlOk R C xs = false; simp [ctlOk, hne]
    go_enter Try.func39, Try.ntmps39
    go_wp2_with fail
    refine (l3Good_any R C A cap xs _ ((hx.out.alloc _).alloc _)).mono ?_
    rintro e w1 ⟨rfl, b1⟩
    obtain ⟨b1c, b1f⟩ := bcell b1
    have z1 := b1.size
    try simp only [World.size_alloc] at z1
    have B1 : Below w.heap.size w w1 := Below.chain (Below.refl _ _) (by go_grown) b1 (by go_size)
    have y10 : w.heap.size < w1.heap.size := by omega
    have y11 : w.heap.size + 1 < w1.heap.size := by omega
    rw [Hok.out]
    go_wp2
    refine bodyPost_ret (by simp [results, Try.results39, go_sem, b1c]) rfl (MRes.no Hno.out ?_)
    go_grown
  subst hrc
  by_cases h16 : R ≤ 16
  case neg =>
    have hgt : (16 : Int) < (R : Int) := by omega
    have e2 : decide ((R : Int) ≤ 16) = false := decide_eq_false (by omega)
    have Hno : Hid (ctlOk R R xs = false) := by show ctlOk R R xs = false; rw [ctlOk, e2, Bool.and_false]
    clear e2
    go_enter Try.func39, Try.ntmps39
    go_wp2_with fail
    refine (l3Good_any R R A cap xs _ ((hx.out.alloc _).alloc _)).mono ?_
    rintro e w1 ⟨rfl, b1⟩
    obtain ⟨b1c, b1f⟩ := bcell b1
    have z1 := b1.size
    try simp only [World.size_alloc] at z1
    have B1 : Below w.heap.size w w1 := Below.chain (Below.refl _ _) (by go_grown) b1 (by go_size)
    have y10 : w.heap.size < w1.heap.size := by omega
    have y11 : w.heap.size + 1 < w1.heap.size := by omega
    rw [Hok.out]
    go_wp2
    refine bodyPost_ret (by simp [results, Try.results39, go_sem, b1c]) rfl (MRes.no Hno.out ?_)
    go_grown
  have hle : (R : Int) ≤ 16 := by omega
  have Hyes : Hid (ctlOk R R xs = true) := by
    show _ = _
    have e1 : decide ((R : Int) = (R : Int)) = true := decide_eq_true rfl
    have e2 : decide ((R : Int) ≤ 16) = true := decide_eq_true hle
    rw [ctlOk, Hok.out, e1, e2]
    rfl
  have HU : Hid (∀ W : World, Calls Try.prog 80 #[.int .i64 (2 * (R : Int))] W fun e w' => ∃ (A' : Option Addr) (cap' : Nat), e = .returned (mv (2 * (R : Int)) (2 * (R : Int)) A' (cellsM (2 * R) (2 * R * (2 * R)) ijD).length cap') ∧ FlatIn w' A' (flatD (cellsM (2 * R) (2 * R * (2 * R)) ijD)) W.heap.size w'.heap.size ∧ Below W.heap.size W w') := fun W => by
    have h := l3Unit_any (2 * R) W (by omega)
    have e : ((2 * R : Nat) : Int) = 2 * (R : Int) := by omega
    rw [e] at h
    exact h
  have Hpos : Hid (0 < 2 * R * (2 * R)) := Nat.mul_pos (by omega) (by omega)
  have HR := Lib.hid (And.intro hR1 h16)
  have Hll : Hid ((cellsM (2 * R) (2 * R * (2 * R)) ijD).length = (ctlL R xs).length) := by show _ = _; rw [ctlL, cellsM_len, cellsM_len]
  clear hdr hR1 hR hC1 hC h16
  go_enter Try.func39, Try.ntmps39
  go_wp2_with fail
  refine (l3Good_any R R A cap xs _ ((hx.out.alloc _).alloc _)).mono ?_
  rintro e w1 ⟨rfl, b1⟩
  obtain ⟨b1c, b1f⟩ := bcell b1
  have z1 := b1.size
  try simp only [World.size_alloc] at z1
  have B1 : Below w.heap.size w w1 := Below.chain (Below.refl _ _) (by go_grown) b1 (by go_size)
  have y10 : w.heap.size < w1.heap.size := by omega
  have y11 : w.heap.size + 1 < w1.heap.size := by omega
  rw [Hok.out]
  have HP1 : Hid (w1.heap[w.heap.size]? = some (.cells #[.int .i64 (R : Int), .int .i64 (R : Int), .slice A xs.length cap] 54 (0, 0))) := (b1.block _ (by go_size)).trans ((Below.heap_alloc _ _ _ (by go_size)).trans (heap_top _ _ rfl))
  have HZ1 : Hid (Zero3 w1 (w.heap.size + 1)) := (b1.block _ (by go_size)).trans (heap_top _ _ (by simp))
  go_wp2_with fail
  refine (HU.out _).mono ?_
  rintro e w2 ⟨A', cap', rfl, hf, b2⟩
  obtain ⟨L, hL⟩ : ∃ L, L = (cellsM (2 * R) (2 * R * (2 * R)) ijD).length := ⟨_, rfl⟩
  rw [← hL]
  have HL := Lib.hid hL
  obtain ⟨x0, h0⟩ : ∃ x0, (cellsM (2 * R) (2 * R * (2 * R)) ijD)[0]? = some x0 := ⟨_, List.getElem?_eq_getElem (by rw [cellsM_len]; exact Hpos.out)⟩
  obtain ⟨g, off, rfl, hg, _⟩ := hf.at.five h0
  obtain ⟨g', e, h1, h2, _⟩ := hf.1 _ rfl
  cases e
  have hL4 : (L : Int) = 4 * ((R : Int) * (R : Int)) := by
    rw [hL, cellsM_len]
    have e : ((2 * R * (2 * R) : Nat) : Int) = 2 * (R : Int) * (2 * (R : Int)) := by simp
    rw [e]
    grind
  have HL4 := Lib.hid hL4
  have z2 := b2.size
  have zz : w.heap.size + 1 < w1.heap.size := by omega
  have HP2 : Hid (w2.heap[w.heap.size]? = some (.cells #[.int .i64 (R : Int), .int .i64 (R : Int), .slice A xs.length cap] 54 (0, 0))) := (b2.block _ (by omega)).trans HP1.out
  have HZ2 : Hid (Zero3 w2 (w.heap.size + 1)) := (b2.block _ (by omega)).trans HZ1.out
  have B2 : Below w.heap.size w w2 := B1.trans (b2.mono B1.size)
  have Hf := Lib.hid hf
  have y20 : w.heap.size < w2.heap.size := by omega
  have y21 : w.heap.size + 1 < w2.heap.size := by omega
  have q0 := cell_of_row w2 w.heap.size 0 _ _ _ HP2.out
  clear b1 b1c b1f hf b2 h0 hL hL4 z1 HP1 HZ1
  go_wp2_with fail
  go_loopg [6] R (fun gk s wr => ∃ i : Nat, s = .int .i64 i ∧ i + gk = R ∧ CtlI w wr R A cap xs g w1.heap.size w2.heap.size L cap' (i * R))
  case atStart =>
    refine ⟨0, rfl, by omega, ?_, (Below.heap_alloc _ _ _ y21).trans HZ2.out, (Below.heap_alloc _ _ _ y20).trans HP2.out, heap_top _ _ rfl, by go_grown⟩
    rw [Nat.zero_mul, ctl_zero]
    exact Hf.out.alloc _
  case round =>
    obtain ⟨i, rfl, hig, hI⟩ := hrel
    have HI := Lib.hid hI
    clear hI
    by_cases hilt : i < R
    · go_wp2_with fail
      go_loopg [7] R (fun gk s wr => ∃ j : Nat, s = .int .i64 j ∧ j + gk = R ∧ CtlI w wr R A cap xs g w1.heap.size w2.heap.size L cap' (i * R + j))
      case atStart => exact ⟨0, rfl, by omega, HI.out⟩
      case round =>
        clear HI
        obtain ⟨j, rfl, hjg, hI⟩ := hrel
        have HI := Lib.hid hI
        obtain ⟨hf, hz, hp, ho, hb⟩ := hI
        have zo : w2.heap.size < wr.heap.size := (Array.getElem?_eq_some_iff.1 ho).1
        have p0 := cell_of_row wr w.heap.size 0 _ _ _ hp
        have p2 := cell_of_row wr w.heap.size 2 _ _ _ hp
        have o2 := cell_of_row wr w2.heap.size 2 _ _ _ ho
        have Hf := Lib.hid hf
        have Hz := Lib.hid hz
        have Hp := Lib.hid hp
        have Ho := Lib.hid ho
        clear hf hz hp ho
        by_cases hjlt : j < R
        · obtain ⟨x, hx0⟩ : ∃ x, x = atD R xs i j := ⟨_, rfl⟩
          obtain ⟨q, hq⟩ : ∃ q : Nat, q = i * R + j := ⟨_, rfl⟩
          obtain ⟨T, hT⟩ : ∃ T : Nat, T = (R + i) * (2 * R) + (R + j) := ⟨_, rfl⟩
          have hxq : xs[q]? = some x := by rw [hq, hx0]; exact atD_some Hlen.out hilt hjlt
          have hTl : T < 2 * R * (2 * R) := by rw [hT]; exact idx_lt rfl (by omega) (by omega)
          have hl5 : (flatD (cellsM (2 * R) (2 * R * (2 * R)) (ctlTo R xs (i * R + j)))).length = (2 * R * (2 * R)) * 5 := by rw [flatD_len, cellsM_len]
          have Hst : Hid (set5 (flatD (cellsM (2 * R) (2 * R * (2 * R)) (ctlTo R xs (i * R + j)))) (T * 5) x.1.1 x.1.2.1 x.1.2.2.1 x.1.2.2.2 x.2 = flatD (cellsM (2 * R) (2 * R * (2 * R)) (ctlTo R xs (i * R + (j + 1))))) := by
            show _ = _
            rw [← Nat.add_assoc, ← ctl_step xs hilt hjlt, flatD_set, if_pos (by rw [cellsM_len, ← hT]; exact hTl), ← hT, ← hx0]
          have hm1 : (0 : Int) ≤ (i : Int) * (R : Int) := Int.mul_nonneg (by omega) (by omega)
          have hm2 : (i : Int) * (R : Int) ≤ 256 := by
            have h := Nat.mul_le_mul (show i ≤ 16 by omega) HR.out.2
            have e : ((i * R : Nat) : Int) = (i : Int) * (R : Int) := Int.natCast_mul i R
            omega
          have hm3 : (0 : Int) ≤ (R : Int) * (R : Int) := Int.mul_nonneg (by omega) (by omega)
          have hm4 : (R : Int) * (R : Int) ≤ 256 := by
            have h := Nat.mul_le_mul HR.out.2 HR.out.2
            have e : ((R * R : Nat) : Int) = (R : Int) * (R : Int) := Int.natCast_mul R R
            omega
          have hqi : (i : Int) * (R : Int) + (j : Int) = (q : Int) := by rw [hq, Int.natCast_add, Int.natCast_mul]
          have hqlt : q < xs.length := (List.getElem?_eq_some_iff.1 hxq).1
          have hT0 : (((R : Int) + (i : Int)) * 2) * (R : Int) = 2 * ((R : Int) * (R : Int)) + 2 * ((i : Int) * (R : Int)) := by grind
          have hTi : (((R : Int) + (i : Int)) * 2) * (R : Int) + (R : Int) + (j : Int) = (T : Int) := by
            rw [hT]
            have e : (((R + i) * (2 * R) + (R + j) : Nat) : Int) = ((R : Int) + (i : Int)) * (2 * (R : Int)) + ((R : Int) + (j : Int)) := by simp
            rw [e]
            grind
          have hTlt : (T : Int) < (L : Int) := by
            rw [HL.out, cellsM_len]
            omega
          have hq0 : (0 : Int) ≤ (q : Int) := by omega
          have hT1 : (0 : Int) ≤ (T : Int) := by omega
          have hqlti : (q : Int) < (xs.length : Int) := by omega
          have ww1 : IntKind.wrap .i64 ((i : Int) * (R : Int)) = (i : Int) * (R : Int) := IntWalk.i64_in _ (by omega)
          have ww2 : IntKind.wrap .i64 ((i : Int) * (R : Int) + (j : Int)) = (q : Int) := by rw [hqi]; exact IntWalk.i64_in _ (by omega)
          have ww3 : IntKind.wrap .i64 (q : Int) = (q : Int) := IntWalk.i64_in _ (by omega)
          have ww4 : IntKind.wrap .i64 ((R : Int) + (i : Int)) = (R : Int) + (i : Int) := IntWalk.i64_in _ (by omega)
          have ww5 : IntKind.wrap .i64 (((R : Int) + (i : Int)) * 2) = ((R : Int) + (i : Int)) * 2 := IntWalk.i64_in _ (by omega)
          have ww6 : IntKind.wrap .i64 (((R : Int) + (i : Int)) * 2 * (R : Int)) = ((R : Int) + (i : Int)) * 2 * (R : Int) := IntWalk.i64_in _ (by omega)
          have ww7 : IntKind.wrap .i64 (((R : Int) + (i : Int)) * 2 * (R : Int) + (R : Int)) = ((R : Int) + (i : Int)) * 2 * (R : Int) + (R : Int) := IntWalk.i64_in _ (by omega)
          have ww8 : IntKind.wrap .i64 (((R : Int) + (i : Int)) * 2 * (R : Int) + (R : Int) + (j : Int)) = (T : Int) := by rw [hTi]; exact IntWalk.i64_in _ (by omega)
          have ww9 : IntKind.wrap .i64 (T : Int) = (T : Int) := IntWalk.i64_in _ (by omega)
          obtain ⟨b, off, rfl, hbl, hc⟩ := hx.out.five hxq
          have Hl5 := Lib.hid hl5
          have HTl := Lib.hid hTl
          obtain ⟨⟨v0, v1, v2, v3, v4, d0, d1, d2, d3, d4⟩, f2, _, _⟩ := Hf.out.slots5 hl5 hTl
          obtain ⟨c0, c1, c2, c3, c4⟩ := hc.below hb hbl
          clear hxq hq hx0 hT hl5 hTl hT0 hTi hqi hqlt
          go_wp2_with fail
          go_still_tail 21, (by kernel_rfl)
          change wpList _ _ _ _ _ wr.drew
          have Bd : Below wr.heap.size wr wr.drew := by go_grown
          generalize wr.drew = wd at Bd ⊢
          clear c0 c1 c2 c3 c4 d0 d1 d2 d3 d4 f2 p0 p2 o2
          have hbd : Below w.heap.size w wd := hb.trans (Bd.mono hb.size)
          have Hfd := Lib.hid (Hf.out.below Bd (by omega))
          obtain ⟨⟨y0, y1, y2, y3, y4, d0, d1, d2, d3, d4⟩, f2, _, _⟩ := Hfd.out.slots5 Hl5.out HTl.out
          have zb := hb.size
          have zd := Bd.size
          have Hzd := Lib.hid ((Bd.block _ (by omega)).trans Hz.out)
          have Hpd := Lib.hid ((Bd.block _ (by omega)).trans Hp.out)
          have Hod := Lib.hid ((Bd.block _ zo).trans Ho.out)
          have zod : w2.heap.size < wd.heap.size := by omega
          have p0 := cell_of_row wd w.heap.size 0 _ _ _ Hpd.out
          have p2 := cell_of_row wd w.heap.size 2 _ _ _ Hpd.out
          have o2 := cell_of_row wd w2.heap.size 2 _ _ _ Hod.out
          obtain ⟨c0, c1, c2, c3, c4⟩ := hc.below hbd hbl
          clear hc Hf Hz Hp Ho hb Bd zo zd zb
          all_goals
            go_wp2
            go_roundg (R - (j + 1))
            case measure => omega
            case rel =>
              refine ⟨j + 1, by go_num, by omega, ?_, ?_, ?_, ?_, ?_⟩
              · rw [← Hst.out]
                exact Hfd.out.set5 _ _ _ _ _ _
              · exact (((((Below.heap_setCell _ _ _ _ (by dsimp only; omega)).trans (Below.heap_setCell _ _ _ _ (by dsimp only; omega))).trans (Below.heap_setCell _ _ _ _ (by dsimp only; omega))).trans (Below.heap_setCell _ _ _ _ (by dsimp only; omega))).trans (Below.heap_setCell _ _ _ _ (by dsimp only; omega))).trans Hzd.out
              · exact (((((Below.heap_setCell _ _ _ _ (by dsimp only; omega)).trans (Below.heap_setCell _ _ _ _ (by dsimp only; omega))).trans (Below.heap_setCell _ _ _ _ (by dsimp only; omega))).trans (Below.heap_setCell _ _ _ _ (by dsimp only; omega))).trans (Below.heap_setCell _ _ _ _ (by dsimp only; omega))).trans Hpd.out
              · exact (((((Below.heap_setCell _ _ _ _ (by dsimp only; omega)).trans (Below.heap_setCell _ _ _ _ (by dsimp only; omega))).trans (Below.heap_setCell _ _ _ _ (by dsimp only; omega))).trans (Below.heap_setCell _ _ _ _ (by dsimp only; omega))).trans (Below.heap_setCell _ _ _ _ (by dsimp only; omega))).trans Hod.out
              · go_grown
        · have hjR : j = R := by omega
          subst hjR
          go_wp2
          go_roundg (j - (i + 1))
          case measure => omega
          case rel => exact ⟨i + 1, by go_num, by omega, by rw [Nat.succ_mul]; exact HI.out⟩
    · have hiR : i = R := by omega
      subst hiR
      obtain ⟨hf, hz, hp, ho, hb⟩ := HI.out
      have o0 := cell_of_row wr w2.heap.size 0 _ _ _ ho
      have o1 := cell_of_row wr w2.heap.size 1 _ _ _ ho
      have o2 := cell_of_row wr w2.heap.size 2 _ _ _ ho
      have zo : w2.heap.size < wr.heap.size := (Array.getElem?_eq_some_iff.1 ho).1
      have s0 := cell_of_row wr (w.heap.size + 1) 0 _ _ _ hz
      have s1 := cell_of_row wr (w.heap.size + 1) 1 _ _ _ hz
      have s2 := cell_of_row wr (w.heap.size + 1) 2 _ _ _ hz
      have sf := fun o => frozen_of_row wr (w.heap.size + 1) o _ _ hz
      rw [ctl_all] at hf
      have Hf := Lib.hid hf
      clear hf hz hp ho
      go_wp2
      rw [HL.out, Hll.out]
      refine bodyPost_ret (by simp [results, Try.results39, go_sem, s0, s1, s2]) rfl (MRes.yes (A := some ⟨g, 0, none⟩) (cap := cap') Hyes.out ?_ ?_)
      · refine FlatIn.mono (lo := w1.heap.size) (hi := w2.heap.size) ?_ (by omega) (by go_size) (Nat.le_refl _)
        repeat (refine FlatIn.setFar ?_ (by dsimp only; omega) _)
        exact Hf.out
      · go_grown
end Go.Proofs.Ytphdcamihkgdiaa
