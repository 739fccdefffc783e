/- Inverse of the reference. -/
import Derived.Test.YtphdcamihkgdiaaInvP
import Derived.Deep.AppendLies
import Derived.Deep.LoopGhost
import Derived.Test.YtphdcamihkgdiaaOwnB
namespace Go.Proofs.Ytphdcamihkgdiaa
open Go.RowKit

/-- block b holds the circuit that is being made: its qubits, and a slice of the call's own, not in block F -/
def MadeC (w : World) (b base F : Nat) (q : Int) (xs : List G3) : Prop :=
  ∃ (A : Option Addr) (cap : Nat), w.heap[b]? = some (.cells #[.int .i64 q, .slice A xs.length cap] 29 (0, 0)) ∧ w.ownsRow base 64 3 (.slice A xs.length cap) xs.length ((flatG xs).map (Value.int .i64)) ∧ ∀ k, (Value.slice A xs.length cap).ownBlock = some k → k ≠ F
/-- block b is a circuit of zeros -/
def ZeroC (w : World) (b : Nat) : Prop := w.heap[b]? = some (.cells #[.int .i64 0, .slice none 0 0] 29 (0, 0))
theorem MadeC.below {w w' : World} {b base F : Nat} {q : Int} {xs : List G3} (h : MadeC w b base F q xs) (hb : Below w.heap.size w w') : MadeC w' b base F q xs := by
  obtain ⟨A, cap, h1, h2, h3⟩ := h
  exact ⟨A, cap, (hb.block b (Array.getElem?_eq_some_iff.1 h1).1).trans h1, owns_below h2 hb, h3⟩
theorem MadeC.far {w : World} {b base F F' : Nat} {q : Int} {xs : List G3} (h : MadeC w b base F q xs) (hF : w.heap.size ≤ F') : MadeC w b base F' q xs := by
  obtain ⟨A, cap, h1, h2, _⟩ := h
  exact ⟨A, cap, h1, h2, fun k hk => by have := (h2.lt k hk).2; omega⟩
theorem MadeC.low {w : World} {b base F F' : Nat} {q : Int} {xs : List G3} (h : MadeC w b base F q xs) (hF : F' < base) : MadeC w b base F' q xs := by
  obtain ⟨A, cap, h1, h2, _⟩ := h
  exact ⟨A, cap, h1, h2, fun k hk => by have := (h2.lt k hk).1; omega⟩
/-- one element more -/
theorem MadeC.push {w3 : World} {b base F g cap : Nat} {q : Int} {A : Option Addr} {cap0 : Nat} {xs : List G3} {x : G3} (hb : w3.heap[b]? = some (.cells #[.int .i64 q, .slice A xs.length cap0] 29 (0, 0)))
    (hown : w3.ownsRow base 64 3 (.slice (some ⟨g, 0, none⟩) (xs.length + 1) cap) (xs.length + 1) ((flatG xs).map (Value.int .i64) ++ [.int .i64 x.1, .int .i64 x.2.1, .int .i64 x.2.2])) (hlt : b < base) (hg : g ≠ F) :
    MadeC (w3.setCell ⟨b, 1, none⟩ (.slice (some ⟨g, 0, none⟩) (xs.length + 1) cap)) b base F q (xs ++ [x]) := by
  have e2 : (xs ++ [x]).length = xs.length + 1 := by simp
  refine ⟨some ⟨g, 0, none⟩, cap, ?_, ?_, ?_⟩
  · rw [e2]
    exact heap_setCell_same w3 b 1 _ _ _ hb
  · rw [e2, flatG_append, List.map_append]
    exact ownsRow_setCell_below hown (by dsimp only; omega) _
  · rw [e2]
    intro k hk
    simp [Value.ownBlock] at hk
    omega

set_option maxRecDepth 100000 in
set_option maxHeartbeats 8000000 in
theorem l4Inverse_any (q : Int) (A : Option Addr) (cap : Nat) (xs : List G3) (w : World) (hn : xs.length ≤ 400) (hx : Hid (FlatAt w A (flatG xs))) :
    Calls Try.prog 71 #[cv q A xs.length cap] w fun e w' => ∃ (A' : Option Addr) (cap' : Nat), e = .returned (cv q A' (invL xs).length cap') ∧ FlatIn w' A' (flatG (invL xs)) w.heap.size w'.heap.size ∧ Below w.heap.size w w' := by
  obtain ⟨i0, hi, hz0, hz1, hz2⟩ := info_parts Try.infoGate
  go_enter Try.func71, Try.ntmps71
  go_wp2_with fail
  generalize hW0 : ((w.alloc (.cells #[.int .i64 q, .slice A xs.length cap] 29)).alloc (.cells #[.int .i64 0, .slice none 0 0] 29)).alloc (.cells #[.int .i64 q, .slice none 0 0] 29) = W0
  have B0 : Below w.heap.size w W0 := by rw [← hW0]; clear hW0; go_grown
  have HP : Hid (W0.heap[w.heap.size]? = some (.cells #[.int .i64 q, .slice A xs.length cap] 29 (0, 0))) := by
    rw [← hW0]
    exact (Below.heap_alloc _ _ _ (by go_size)).trans ((Below.heap_alloc _ _ _ (by go_size)).trans (heap_top _ _ rfl))
  have HZ : Hid (ZeroC W0 (w.heap.size + 1)) := by
    rw [← hW0]
    exact (Below.heap_alloc _ _ _ (by go_size)).trans (heap_top _ _ (by simp))
  have HM : Hid (MadeC W0 (w.heap.size + 1 + 1) (w.heap.size + 1 + 1 + 1) (w.heap.size + 1 + 1) q []) := by
    rw [← hW0]
    exact ⟨none, 0, heap_top _ _ (by simp), World.ownsRow_nil _ _ _ _, fun k hk => by cases hk⟩
  clear hW0
  go_loopg [4] xs.length (fun gk s wr => ∃ k : Nat, s = .int .i64 ((k : Int) - 1) ∧ k = gk ∧ k ≤ xs.length ∧ MadeC wr (w.heap.size + 1 + 1) (w.heap.size + 1 + 1 + 1) (w.heap.size + 1 + 1) q (invL (xs.drop k)) ∧ ZeroC wr (w.heap.size + 1) ∧ wr.heap[w.heap.size]? = some (.cells #[.int .i64 q, .slice A xs.length cap] 29 (0, 0)) ∧ Below w.heap.size w wr)
  case atStart => exact ⟨xs.length, rfl, rfl, Nat.le_refl _, by rw [List.drop_length]; exact HM.out, HZ.out, HP.out, B0⟩
  case round =>
    obtain ⟨k, rfl, hkg, hk, hm, hz, hp, hb⟩ := hrel
    have Hm := Lib.hid hm
    have Hz := Lib.hid hz
    have Hp := Lib.hid hp
    have Hkg := Lib.hid hkg
    clear hm hz hp hkg
    by_cases hk0 : 0 < k
    · obtain ⟨j, rfl⟩ : ∃ j, k = j + 1 := ⟨k - 1, by omega⟩
      rw [show (((j + 1 : Nat) : Int) - 1) = (j : Int) from by omega]
      have hlt : j < xs.length := by omega
      obtain ⟨x, hkx⟩ : ∃ x, xs[j]? = some x := ⟨_, List.getElem?_eq_getElem hlt⟩
      obtain ⟨b, off, rfl, hbl, hc⟩ := hx.out.three hkx
      have Hst := Lib.hid (invL_step hkx)
      clear hkx
      obtain ⟨c0, c1, c2⟩ := hc.below hb hbl
      clear hc
      have p1 := cell_of_row wr w.heap.size 1 _ _ _ Hp.out
      go_wp2_with fail
      refine (l4Back_any _ _ _ _).mono ?_
      rintro e w2 ⟨rfl, b2⟩
      have B2 : Below w.heap.size w w2 := hb.trans (b2.mono hb.size)
      have z2 : w.heap.size + 1 + 1 < wr.heap.size := by
        obtain ⟨_, _, h, _⟩ := Hm.out
        exact (Array.getElem?_eq_some_iff.1 h).1
      have z3 := b2.size
      have Hm2 := Lib.hid (Hm.out.below b2)
      have Hz2 := Lib.hid ((b2.block _ (by omega)).trans Hz.out)
      have Hp2 := Lib.hid ((b2.block _ (by omega)).trans Hp.out)
      obtain ⟨T, hT⟩ : ∃ T, T = invT x := ⟨_, rfl⟩
      rw [← invT_cast x, ← hT]
      obtain ⟨x', hx'⟩ : ∃ x', x' = invG x := ⟨_, rfl⟩
      have hx1 : x'.1 = invK x.1 := by rw [hx']; rfl
      have hx2 : x'.2.1 = x.2.1 := by rw [hx']; rfl
      have hx3 : x'.2.2 = x.2.2 := by rw [hx']; rfl
      rw [← hx1, ← hx2, ← hx3]
      have hT7 : T ≤ 7 := by rw [hT]; exact invT_le x
      have Hst2 : Hid (invL (xs.drop j) = invL (xs.drop (j + 1)) ++ List.replicate T x') := by show _ = _; rw [Hst.out, hT, hx']
      have hll : (invL (xs.drop (j + 1))).length ≤ 2800 := by
        have := invL_len (xs.drop (j + 1))
        have : (xs.drop (j + 1)).length ≤ 400 := by rw [List.length_drop]; omega
        omega
      clear hT hx' hx1 hx2 hx3 p1 c0 c1 c2 b2 Hz Hp Hm hb Hst
      go_wp2_with fail
      go_loopg [6] T (fun gk s wr => ∃ t : Nat, s = .int .i64 t ∧ t = gk ∧ t ≤ T ∧ MadeC wr (w.heap.size + 1 + 1) (w.heap.size + 1 + 1 + 1) w2.heap.size q (invL (xs.drop (j + 1)) ++ List.replicate (T - t) x') ∧ ZeroC wr (w.heap.size + 1) ∧ wr.heap[w.heap.size]? = some (.cells #[.int .i64 q, .slice (some ⟨b, off, none⟩) xs.length cap] 29 (0, 0)) ∧ wr.heap[w2.heap.size]? = some (.cells #[.int .i64 x'.1, .int .i64 x'.2.1, .int .i64 x'.2.2] 64 (0, 0)) ∧ Below w.heap.size w wr)
      case atStart =>
        refine ⟨T, rfl, rfl, Nat.le_refl _, ?_, (Below.heap_alloc _ _ _ (by omega)).trans Hz2.out, (Below.heap_alloc _ _ _ (by omega)).trans Hp2.out, heap_top _ _ rfl, by go_grown⟩
        rw [Nat.sub_self, List.replicate_zero, List.append_nil]
        exact (Hm2.out.far (Nat.le_refl _)).below (by go_grown)
      case round =>
        obtain ⟨t, rfl, htg, ht, hm, hz, hp, hg, hb⟩ := hrel
        have Hm := Lib.hid hm
        have Hz := Lib.hid hz
        have Hp := Lib.hid hp
        have Hg := Lib.hid hg
        have Htg := Lib.hid htg
        clear hm hz hp hg htg
        by_cases ht0 : 0 < t
        · obtain ⟨u, rfl⟩ : ∃ u, t = u + 1 := ⟨t - 1, by omega⟩
          rw [show (((u + 1 : Nat) : Int)) = (u : Int) + 1 from by omega]
          obtain ⟨A', cap', hb2, hown, hne⟩ := Hm.out
          have k1 := cell_of_row wr (w.heap.size + 1 + 1) 1 _ _ _ hb2
          have kf := frozen_of_row wr (w.heap.size + 1 + 1) 1 _ _ hb2
          have zg := (Array.getElem?_eq_some_iff.1 Hg.out).1
          have d0 := cell_of_row wr w2.heap.size 0 _ _ _ Hg.out
          have d1 := cell_of_row wr w2.heap.size 1 _ _ _ Hg.out
          have d2 := cell_of_row wr w2.heap.size 2 _ _ _ Hg.out
          have Hb2 := Lib.hid hb2
          have Hown := Lib.hid hown
          have Hne := Lib.hid hne
          clear hb2 hown hne
          obtain ⟨ys, hys⟩ : ∃ ys, ys = invL (xs.drop (j + 1)) ++ List.replicate (T - (u + 1)) x' := ⟨_, rfl⟩
          have hyl : ys.length ≤ 2807 := by rw [hys, List.length_append, List.length_replicate]; omega
          have Hys := Lib.hid hys
          rw [← hys] at k1 Hb2 Hown Hne
          clear hys Hm
          go_wp2_with (at_builtin; refine wpList_append_lies _ rfl _ _ 27 rfl (w.heap.size + 1 + 1 + 1) 64 i0 (tv 0 0 0) 3 24 Try.underlying27 hi hz0 hz1 hz2 rfl (by decide) (.slice A' ys.length cap') ys.length ((flatG ys).map (Value.int .i64)) rfl (Hown.out.alloc _) ⟨wr.heap.size, 0, none⟩ 1 1 [.int .i64 x'.1, .int .i64 x'.2.1, .int .i64 x'.2.2] rfl rfl ?c1 ?c2 (by decide) ?c3 ?c4 ?c5 (wr.heap.size + 1) ?c6 ?_)
          case c1 => exact cells_at _ (heap_top _ _ rfl)
          case c2 => intro v hv; simp at hv; rcases hv with rfl | rfl | rfl <;> rfl
          case c3 => unfold maxLen; omega
          case c4 => omega
          case c5 => simp; omega
          case c6 => simp
          intro g cap2 w3 hown' hgrow hat hlt3
          have hrow : ∀ kk, (Value.slice A' ys.length cap').ownBlock = some kk → w.heap.size + 1 + 1 + 1 ≤ kk ∧ kk ≠ w2.heap.size := fun kk hk => ⟨(Hown.out.lt kk hk).1, Hne.out kk hk⟩
          have hg' : g ≠ w2.heap.size := by
            rcases hat with h | h
            · exact (hrow g h).2
            · omega
          have hb3 := Lib.hid ((hgrow.block (w.heap.size + 1 + 1) (by simp; omega) (fun e => by have := (hrow _ e.symm).1; omega)).trans ((Below.heap_alloc wr _ _ (by omega)).trans Hb2.out))
          have hz3 := Lib.hid ((hgrow.block (w.heap.size + 1) (by simp; omega) (fun e => by have := (hrow _ e.symm).1; omega)).trans ((Below.heap_alloc wr _ _ (by omega)).trans Hz.out))
          have hp3 := Lib.hid ((hgrow.block w.heap.size (by simp; omega) (fun e => by have := (hrow _ e.symm).1; omega)).trans ((Below.heap_alloc wr _ _ (by omega)).trans Hp.out))
          have hg3 := Lib.hid ((hgrow.block w2.heap.size (by simp; omega) (fun e => (hrow _ e.symm).2 rfl)).trans ((Below.heap_alloc wr _ _ (by omega)).trans Hg.out))
          have B3 : Below w.heap.size w w3 := Below.grown (by go_grown) hgrow (by simp; omega) (fun kk hk => by have := (hrow kk hk).1; omega)
          have ho' := Lib.hid hown'
          have Hg' := Lib.hid hg'
          have k3 := cell_of_row w3 (w.heap.size + 1 + 1) 1 _ _ _ hb3.out
          have k3f := frozen_of_row w3 (w.heap.size + 1 + 1) 1 _ _ hb3.out
          clear hown' hgrow hat hrow hg'
          go_wp2
          go_roundg u
          case measure => have := Htg.out; omega
          case rel =>
            refine ⟨u, by go_num, rfl, by omega, ?_, (Below.heap_setCell _ _ _ _ (by dsimp only; omega)).trans hz3.out, (Below.heap_setCell _ _ _ _ (by dsimp only; omega)).trans hp3.out, (Below.heap_setCell _ _ _ _ (by dsimp only; omega)).trans hg3.out, B3.setCell (by dsimp only; omega) _⟩
            rw [show T - u = T - (u + 1) + 1 from by omega, repl_step, ← List.append_assoc, ← Hys.out]
            exact MadeC.push hb3.out ho'.out (by omega) Hg'.out
        · have ht00 : t = 0 := by omega
          subst ht00
          go_wp2
          go_roundg j
          case measure => have := Hkg.out; omega
          case rel => exact ⟨j, by go_num, rfl, by omega, by have h := Hm.out; rw [Nat.sub_zero, ← Hst2.out] at h; exact h.low (by omega), Hz.out, Hp.out, hb⟩
    · have hk00 : k = 0 := by omega
      subst hk00
      obtain ⟨A', cap', hb2, hown, _⟩ := Hm.out
      rw [List.drop_zero] at hb2 hown
      have k0 := cell_of_row wr (w.heap.size + 1 + 1) 0 _ _ _ hb2
      have k1 := cell_of_row wr (w.heap.size + 1 + 1) 1 _ _ _ hb2
      have zb2 : w.heap.size + 1 + 1 < wr.heap.size := (Array.getElem?_eq_some_iff.1 hb2).1
      have Hown := Lib.hid hown
      have q0 := cell_of_row wr (w.heap.size + 1) 0 _ _ _ Hz.out
      have q1 := cell_of_row wr (w.heap.size + 1) 1 _ _ _ Hz.out
      have qf := fun o => frozen_of_row wr (w.heap.size + 1) o _ _ Hz.out
      clear hb2 hown
      go_wp2
      refine bodyPost_ret (by simp [results, Try.results71, go_sem, q0, q1]) rfl ⟨A', cap', rfl, ?_, ?_⟩
      · refine FlatIn.mono (lo := w.heap.size + 1 + 1 + 1) (hi := wr.heap.size) ?_ (by omega) (by go_size) (Nat.le_refl _)
        repeat (refine FlatIn.setFar ?_ (by dsimp only; omega) _)
        exact FlatIn.of_owns Hown.out rfl
      · go_grown

set_option maxRecDepth 100000 in
set_option maxHeartbeats 4000000 in
theorem specInv4_any (q : Int) (A : Option Addr) (cap : Nat) (xs : List G3) (w : World) (hn : xs.length ≤ 1048576) (hx : Hid (FlatAt w A (flatG xs))) :
    Calls Try.prog 31 #[cv q A xs.length cap] w fun e w' => CRes e w w' (invOk q xs) q (invL xs) := by
  rcases hok : cOk q xs with _ | _
  · have Hno : Hid (invOk q xs = false) := by show invOk _ _ = false; simp [invOk, hok]
    go_enter Try.func31, Try.ntmps31
    go_wp2_with fail
    refine (l4Good_any q A cap xs _ (by omega) ((hx.out.alloc _).alloc _)).mono ?_
    rintro e w1 ⟨rfl, b1⟩
    obtain ⟨b1c, b1f⟩ := bcell b1
    have z1 := b1.size
    try simp only [World.size_alloc] at z1
    have B1 : Below w.heap.size w w1 := Below.chain (Below.refl _ _) (by go_grown) b1 (by go_size)
    have y10 : w.heap.size < w1.heap.size := by omega
    have y11 : w.heap.size + 1 < w1.heap.size := by omega
    rw [hok]
    go_wp2
    refine bodyPost_ret (by simp [results, Try.results31, go_sem, b1c]) rfl (CRes.no Hno.out ?_)
    go_grown
  have Hok := Lib.hid hok
  have hl4 := (cOk_parts hok).2.1
  clear hok
  obtain ⟨n, hnn⟩ : ∃ n, n = (invL xs).length := ⟨_, rfl⟩
  have hn28 : n ≤ 2800 := by have := invL_len xs; omega
  have Hnn := Lib.hid hnn
  clear hnn
  rcases hle : decide (n ≤ 400) with _ | _
  all_goals
    have hle' : decide ((400 : Int) < (n : Int)) = !decide (n ≤ 400) := by rw [Bool.eq_iff_iff]; simp; omega
    rw [hle] at hle'
    have Hres : Hid (invOk q xs = decide (n ≤ 400)) := by show invOk _ _ = _; rw [invOk, Hok.out, Hnn.out, Bool.true_and]
    rw [hle] at Hres
    clear hle
    go_enter Try.func31, Try.ntmps31
    go_wp2_with fail
    refine (l4Good_any q A cap xs _ (by omega) ((hx.out.alloc _).alloc _)).mono ?_
    rintro e w1 ⟨rfl, b1⟩
    obtain ⟨b1c, b1f⟩ := bcell b1
    have z1 := b1.size
    try simp only [World.size_alloc] at z1
    have B1 : Below w.heap.size w w1 := Below.chain (Below.refl _ _) (by go_grown) b1 (by go_size)
    have y10 : w.heap.size < w1.heap.size := by omega
    have y11 : w.heap.size + 1 < w1.heap.size := by omega
    rw [Hok.out]
    go_wp2_with fail
    refine (l4Inverse_any q A cap xs _ hl4 (by refine hx.out.below B1)).mono ?_
    rintro e w2 ⟨A', cap', rfl, hf, b2⟩
    rw [← Hnn.out]
    have Hf := Lib.hid hf
    have z2 := b2.size
    have C2 := Below.chain b1 (by go_grown) b2 (by go_size)
    have B2 : Below w.heap.size w w2 := B1.trans (b2.mono B1.size)
    obtain ⟨C2c, C2f⟩ := bcellB C2
    have y20 : w.heap.size < w2.heap.size := by omega
    have y22 : w.heap.size + 1 < w2.heap.size := by omega
    clear hf b2
    go_wp2
  · refine bodyPost_ret (by simp [results, Try.results31, go_sem, C2c, y22]) rfl (CRes.no Hres.out ?_)
    go_grown
  · refine bodyPost_ret (by simp [results, Try.results31, go_sem, C2c, y22]; exact ⟨Hnn.out, Hres.out⟩) rfl (CRes.mk (q' := q) (ys := invL xs) (A := A') (cap := cap') (by rw [Hres.out]; rfl) (by rw [Hres.out]; rfl) ?_ ?_)
    · refine FlatIn.mono (lo := w1.heap.size) (hi := w2.heap.size) ?_ (by omega) (by go_size) (Nat.le_refl _)
      refine FlatIn.alloc ?_ _
      repeat (refine FlatIn.setFar ?_ (by dsimp only; omega) _)
      exact Hf.out
    · go_grown
end Go.Proofs.Ytphdcamihkgdiaa
