/- Inverse of the program. -/
import Derived.Test.YtlihnipbdckmkaaInvS
namespace Go.Proofs.Ytlihnipbdckmkaa
open Go.RowKit

/-- a slice of the call's own, not in block F -/
def OwnG (w : World) (base F : Nat) (v : Value) (xs : List G3) : Prop :=
  ∃ (A : Option Addr) (cap : Nat), v = .slice A xs.length cap ∧ w.ownsRow base 29 3 (.slice A xs.length cap) xs.length ((flatG xs).map (Value.int .i64)) ∧ ∀ k, (Value.slice A xs.length cap).ownBlock = some k → k ≠ F
theorem OwnG.below {w w' : World} {base F : Nat} {v : Value} {xs : List G3} (h : OwnG w base F v xs) (hb : Below w.heap.size w w') : OwnG w' base F v xs := by
  obtain ⟨A, cap, h1, h2, h3⟩ := h
  exact ⟨A, cap, h1, owns_below h2 hb, h3⟩
theorem OwnG.far {w : World} {base F F' : Nat} {v : Value} {xs : List G3} (h : OwnG w base F v xs) (hF : w.heap.size ≤ F') : OwnG w base F' v xs := by
  obtain ⟨A, cap, h1, h2, _⟩ := h
  exact ⟨A, cap, h1, h2, fun k hk => by have := (h2.lt k hk).2; omega⟩
theorem OwnG.low {w : World} {base F F' : Nat} {v : Value} {xs : List G3} (h : OwnG w base F v xs) (hF : F' < base) : OwnG w base F' v xs := by
  obtain ⟨A, cap, h1, h2, _⟩ := h
  exact ⟨A, cap, h1, h2, fun k hk => by have := (h2.lt k hk).1; omega⟩
theorem OwnG.push {w3 : World} {base F g cap : Nat} {xs : List G3} {x : G3}
    (hown : w3.ownsRow base 29 3 (.slice (some ⟨g, 0, none⟩) (xs.length + 1) cap) (xs.length + 1) ((flatG xs).map (Value.int .i64) ++ [.int .i64 x.1, .int .i64 x.2.1, .int .i64 x.2.2])) (hg : g ≠ F) :
    OwnG w3 base F (.slice (some ⟨g, 0, none⟩) (xs.length + 1) cap) (xs ++ [x]) := by
  have e2 : (xs ++ [x]).length = xs.length + 1 := by simp
  refine ⟨some ⟨g, 0, none⟩, cap, by rw [e2], ?_, ?_⟩
  · rw [e2, flatG_append, List.map_append]
    exact hown
  · rw [e2]
    intro k hk
    simp [Value.ownBlock] at hk
    omega

theorem implInvG_any (x : G3) (w : World) (h : gateB 5 x.1 x.2.1 x.2.2 = true) :
    Calls Try.prog 53 #[gvG x] w fun e w' => e = .returned (.tuple #[gvG (invG x), .int .i64 ((invT x : Nat) : Int), .bool true]) ∧ Below w.heap.size w w' :=
  (implInv_any x.1 x.2.1 x.2.2 w).mono fun _ _ ⟨h1, h2⟩ => ⟨by rw [h1, invRes, h, invT_cast]; rfl, h2⟩

set_option maxRecDepth 100000 in
set_option maxHeartbeats 8000000 in
theorem implInvC_any (q : Int) (A : Option Addr) (cap : Nat) (xs : List G3) (w : World) (hn : xs.length ≤ 1048576) (hx : Hid (FlatAt w A (flatG xs))) :
    Calls Try.prog 18 #[cv q A xs.length cap] w fun e w' => CRes e w w' (invOk q xs) q (invL xs) := by
  rcases hok : cOk q xs with _ | _
  · have Hno : Hid (invOk q xs = false) := by show invOk _ _ = false; simp [invOk, hok]
    go_enter Try.func18, Try.ntmps18
    go_wp2_with fail
    refine (implValidC_any q A cap xs _ hn ((hx.out.alloc _).alloc _)).mono ?_
    rintro e w1 ⟨rfl, b1⟩
    obtain ⟨b1c, b1f⟩ := bcell b1
    have z1 := b1.size
    try simp only [World.size_alloc] at z1
    have B1 : Below w.heap.size w w1 := Below.chain (Below.refl _ _) (by go_grown) b1 (by go_size)
    have y10 : w.heap.size < w1.heap.size := by omega
    have y11 : w.heap.size + 1 < w1.heap.size := by omega
    rw [hok]
    go_wp2
    refine bodyPost_ret (by simp [results, Try.results18, go_sem, b1c]) rfl (CRes.no Hno.out ?_)
    go_grown
  have Hok := Lib.hid hok
  have hl4 := (cOk_parts hok).2.1
  clear hok
  obtain ⟨i0, hi, hz0, hz1, hz2⟩ := info_parts Try.infoGate
  go_enter Try.func18, Try.ntmps18
  go_wp2_with fail
  refine (implValidC_any q A cap xs _ hn ((hx.out.alloc _).alloc _)).mono ?_
  rintro e w1 ⟨rfl, b1⟩
  obtain ⟨b1c, b1f⟩ := bcell b1
  have z1 := b1.size
  try simp only [World.size_alloc] at z1
  have B1 : Below w.heap.size w w1 := Below.chain (Below.refl _ _) (by go_grown) b1 (by go_size)
  have y10 : w.heap.size < w1.heap.size := by omega
  have y11 : w.heap.size + 1 < w1.heap.size := by omega
  have Hp1 := Lib.hid ((b1.block w.heap.size (by go_size)).trans ((Below.heap_alloc _ _ _ (by go_size)).trans (heap_top _ _ rfl)))
  have Hz1 : Hid (ZeroC w1 (w.heap.size + 1)) := (b1.block (w.heap.size + 1) (by go_size)).trans (heap_top _ _ (by simp))
  have p1 := cell_of_row w1 w.heap.size 1 _ _ _ Hp1.out
  rw [Hok.out]
  clear b1c b1f b1
  go_wp2_with fail
  generalize hW0 : w1.alloc (.cells #[] 29) = W0
  have HZ : Hid (ZeroC W0 (w.heap.size + 1)) := by rw [← hW0]; exact (Below.heap_alloc _ _ _ (by omega)).trans Hz1.out
  have HP : Hid (W0.heap[w.heap.size]? = some (.cells #[.int .i64 q, .slice A xs.length cap] 38 (0, 0))) := by rw [← hW0]; exact (Below.heap_alloc _ _ _ (by omega)).trans Hp1.out
  have HO : Hid (OwnG W0 (w.heap.size + 2) w.heap.size (.slice (some ⟨w1.heap.size, 0, none⟩) 0 0) []) := by
    rw [← hW0]
    exact ⟨some ⟨w1.heap.size, 0, none⟩, 0, rfl, ownsRow_empty _ (by omega) (heap_top _ _ rfl), fun k hk => by simp [Value.ownBlock] at hk; omega⟩
  have B0 : Below w.heap.size w W0 := by rw [← hW0]; clear hW0; go_grown
  have s0 : w1.heap.size < W0.heap.size := by rw [← hW0]; clear hW0; go_size
  clear hW0 p1
  go_loopg [4, 5] xs.length (fun gk v s wr => ∃ k : Nat, s = .int .i64 ((k : Int) - 1) ∧ k = gk ∧ k ≤ xs.length ∧ OwnG wr (w.heap.size + 2) w.heap.size v (invL (xs.drop k)) ∧ ZeroC wr (w.heap.size + 1) ∧ wr.heap[w.heap.size]? = some (.cells #[.int .i64 q, .slice A xs.length cap] 38 (0, 0)) ∧ Below w.heap.size w wr ∧ w1.heap.size < wr.heap.size)
  case atStart => exact ⟨xs.length, rfl, rfl, Nat.le_refl _, by rw [List.drop_length]; exact HO.out, HZ.out, HP.out, B0, s0⟩
  case round =>
    obtain ⟨k, rfl, hkg, hk, ho, hz, hp, hb, hs⟩ := hrel
    have Hz := Lib.hid hz
    have Hp := Lib.hid hp
    have Hkg := Lib.hid hkg
    have p1 := cell_of_row wr w.heap.size 1 _ _ _ hp
    clear hz hp hkg
    obtain ⟨A', cap', rfl, hown, hne⟩ := ho
    by_cases hk0 : 0 < k
    · obtain ⟨j, rfl⟩ : ∃ j, k = j + 1 := ⟨k - 1, by omega⟩
      rw [show (((j + 1 : Nat) : Int) - 1) = (j : Int) from by omega]
      have hlt : j < xs.length := by omega
      obtain ⟨x, hkx⟩ : ∃ x, xs[j]? = some x := ⟨_, List.getElem?_eq_getElem hlt⟩
      obtain ⟨b, off, rfl, hbl, hc⟩ := hx.out.three hkx
      have Hst := Lib.hid (invL_step hkx)
      have Hin := Lib.hid (inv_one Hok.out hkx)
      clear hkx
      obtain ⟨c0, c1, c2⟩ := hc.below hb hbl
      clear hc
      have Ho := Lib.hid (show OwnG wr (w.heap.size + 2) w.heap.size _ _ from ⟨A', cap', rfl, hown, hne⟩)
      clear hown hne
      go_wp2_with fail
      refine (implInvG_any x _ Hin.out).mono ?_
      rintro e w2 ⟨rfl, b2⟩
      have B2 : Below w.heap.size w w2 := hb.trans (b2.mono hb.size)
      have z3 := b2.size
      have Ho2 := Lib.hid (Ho.out.below b2)
      have Hz2 := Lib.hid ((b2.block _ (by omega)).trans Hz.out)
      have Hp2 := Lib.hid ((b2.block _ (by omega)).trans Hp.out)
      obtain ⟨T, hT⟩ : ∃ T, T = invT x := ⟨_, rfl⟩
      rw [← hT]
      obtain ⟨x', hx'⟩ : ∃ x', x' = invG x := ⟨_, rfl⟩
      rw [← hx']
      have hT7 : T ≤ 7 := by rw [hT]; exact invT_le x
      have Hst2 : Hid (invL (xs.drop j) = invL (xs.drop (j + 1)) ++ List.replicate T x') := by show _ = _; rw [Hst.out, hT, hx']
      have hll : (invL (xs.drop (j + 1))).length ≤ 2800 := by
        have := invL_len (xs.drop (j + 1))
        have : (xs.drop (j + 1)).length ≤ 400 := by rw [List.length_drop]; omega
        omega
      clear hT hx' p1 c0 c1 c2 b2 Hz Hp Ho hb Hst
      go_wp2_with fail
      go_loopg [4, 33] T (fun gk v s wr => ∃ t : Nat, s = .int .i64 t ∧ t + gk = T ∧ OwnG wr (w.heap.size + 2) w2.heap.size v (invL (xs.drop (j + 1)) ++ List.replicate t x') ∧ ZeroC wr (w.heap.size + 1) ∧ wr.heap[w.heap.size]? = some (.cells #[.int .i64 q, .slice (some ⟨b, off, none⟩) xs.length cap] 38 (0, 0)) ∧ wr.heap[w2.heap.size]? = some (.cells #[.int .i64 x'.1, .int .i64 x'.2.1, .int .i64 x'.2.2] 29 (0, 0)) ∧ Below w.heap.size w wr ∧ w1.heap.size < wr.heap.size)
      case atStart =>
        refine ⟨0, rfl, by omega, ?_, (Below.heap_alloc _ _ _ (by omega)).trans Hz2.out, (Below.heap_alloc _ _ _ (by omega)).trans Hp2.out, heap_top _ _ rfl, by go_grown, by go_size⟩
        rw [List.replicate_zero, List.append_nil]
        exact (Ho2.out.far (Nat.le_refl _)).below (by go_grown)
      case round =>
        obtain ⟨t, rfl, htg, ho, hz, hp, hg, hb, hs⟩ := hrel
        have Hz := Lib.hid hz
        have Hp := Lib.hid hp
        have Hg := Lib.hid hg
        have Htg := Lib.hid htg
        obtain ⟨A', cap', rfl, hown, hne⟩ := ho
        have zg := (Array.getElem?_eq_some_iff.1 Hg.out).1
        have d0 := cell_of_row wr w2.heap.size 0 _ _ _ Hg.out
        have d1 := cell_of_row wr w2.heap.size 1 _ _ _ Hg.out
        have d2 := cell_of_row wr w2.heap.size 2 _ _ _ Hg.out
        clear hz hp hg
        by_cases ht0 : t < T
        · have hti : (t : Int) < (T : Int) := by omega
          clear htg
          have Hown := Lib.hid hown
          have Hne := Lib.hid hne
          clear hown hne
          obtain ⟨ys, hys⟩ : ∃ ys, ys = invL (xs.drop (j + 1)) ++ List.replicate t x' := ⟨_, rfl⟩
          have hyl : ys.length ≤ 2807 := by rw [hys, List.length_append, List.length_replicate]; omega
          have Hys := Lib.hid hys
          rw [← hys] at Hown Hne ⊢
          clear hys
          go_wp2_with (at_builtin; refine wpList_append_lies _ rfl _ _ 36 rfl (w.heap.size + 2) 29 i0 (tv 0 0 0) 3 24 Try.underlying36 hi hz0 hz1 hz2 rfl (by decide) (.slice A' ys.length cap') ys.length ((flatG ys).map (Value.int .i64)) rfl (Hown.out.alloc _) ⟨wr.heap.size, 0, none⟩ 1 1 [.int .i64 x'.1, .int .i64 x'.2.1, .int .i64 x'.2.2] rfl rfl ?c1 ?c2 (by decide) ?c3 ?c4 ?c5 (wr.heap.size + 1) ?c6 ?_)
          case c1 => exact cells_at _ (heap_top _ _ rfl)
          case c2 => intro v hv; simp at hv; rcases hv with rfl | rfl | rfl <;> rfl
          case c3 => unfold maxLen; omega
          case c4 => omega
          case c5 => simp; omega
          case c6 => simp
          intro g cap2 w3 hown' hgrow hat hlt3
          have hrow : ∀ kk, (Value.slice A' ys.length cap').ownBlock = some kk → w.heap.size + 2 ≤ kk ∧ kk ≠ w2.heap.size := fun kk hk => ⟨(Hown.out.lt kk hk).1, Hne.out kk hk⟩
          have hg' : g ≠ w2.heap.size := by
            rcases hat with h | h
            · exact (hrow g h).2
            · omega
          have hz3 := Lib.hid ((hgrow.block (w.heap.size + 1) (by simp; omega) (fun e => by have := (hrow _ e.symm).1; omega)).trans ((Below.heap_alloc wr _ _ (by omega)).trans Hz.out))
          have hp3 := Lib.hid ((hgrow.block w.heap.size (by simp; omega) (fun e => by have := (hrow _ e.symm).1; omega)).trans ((Below.heap_alloc wr _ _ (by omega)).trans Hp.out))
          have hg3 := Lib.hid ((hgrow.block w2.heap.size (by simp; omega) (fun e => (hrow _ e.symm).2 rfl)).trans ((Below.heap_alloc wr _ _ (by omega)).trans Hg.out))
          have B3 : Below w.heap.size w w3 := Below.grown (by go_grown) hgrow (by simp; omega) (fun kk hk => by have := (hrow kk hk).1; omega)
          have s3 := hgrow.size
          simp only [World.size_alloc] at s3
          have ho' := Lib.hid hown'
          have Hg' := Lib.hid hg'
          clear hown' hgrow hat hrow hg'
          go_wp2
          go_roundg (T - (t + 1))
          case measure => have := Htg.out; omega
          case rel =>
            refine ⟨t + 1, by go_num, by omega, ?_, hz3.out, hp3.out, hg3.out, B3, by omega⟩
            rw [repl_step, ← List.append_assoc, ← Hys.out]
            exact OwnG.push ho'.out Hg'.out
        · have ht00 : t = T := by omega
          subst ht00
          rw [← Hst2.out] at hown hne ⊢
          have Ho := Lib.hid (show OwnG wr (w.heap.size + 2) w2.heap.size _ _ from ⟨A', cap', rfl, hown, hne⟩)
          clear hown hne
          go_wp2
          go_roundg j
          case measure => have := Hkg.out; omega
          case rel => exact ⟨j, by go_num, rfl, by omega, Ho.out.low (by omega), Hz.out, Hp.out, hb, hs⟩
    · have hk00 : k = 0 := by omega
      subst hk00
      rw [List.drop_zero] at hown hne ⊢
      have q0 := cell_of_row wr (w.heap.size + 1) 0 _ _ _ Hz.out
      have q1 := cell_of_row wr (w.heap.size + 1) 1 _ _ _ Hz.out
      have qf := fun o => frozen_of_row wr (w.heap.size + 1) o _ _ Hz.out
      have p0 := cell_of_row wr w.heap.size 0 _ _ _ Hp.out
      have Hf := Lib.hid (FlatIn.of_owns hown rfl)
      have hll : (invL xs).length ≤ 2800 := by
        have := invL_len xs
        omega
      clear hown hne
      have Hres := Lib.hid (invOk_of Hok.out)
      go_wp2_with fail
      refine (circuitIf_any q A' cap' (invL xs) _ (by omega) Hf.out.at).mono ?_
      rw [Hres.out]
      rintro e w4 hres
      obtain ⟨A4, cap4, q4, ys, rfl, h1, h2, hf4, b4⟩ := hres.form
      have He := Lib.hid (And.intro h1 h2)
      have Hf4 := Lib.hid hf4
      have B4 : Below w.heap.size w w4 := hb.trans (b4.mono hb.size)
      have z4 := b4.size
      have y40 : w.heap.size < w4.heap.size := by omega
      have y41 : w.heap.size + 1 < w4.heap.size := by omega
      have yr1 : w.heap.size + 1 < wr.heap.size := by omega
      obtain ⟨b4c, b4f⟩ := bcell b4
      clear h1 h2 hf4 hres b4
      go_wp2
      refine bodyPost_ret (by simp [results, Try.results18, go_sem, b4c, yr1, q0, q1]) rfl (CRes.mk (A := A4) (cap := cap4) He.out.1 He.out.2 ?_ ?_)
      · refine FlatIn.mono (lo := wr.heap.size) (hi := w4.heap.size) ?_ (by omega) (by go_size) (Nat.le_refl _)
        repeat (refine FlatIn.setFar ?_ (by dsimp only; omega) _)
        exact Hf4.out
      · go_grown
theorem invBd (q : Int) (xs : List G3) : (if invOk q xs then invL xs else []).length ≤ 1048576 := by
  split
  · next h =>
    unfold invOk at h
    rw [Bool.and_eq_true, decide_eq_true_eq] at h
    omega
  · simp
end Go.Proofs.Ytlihnipbdckmkaa
