/- The reference's draws of circuits: built, circuit. -/
import Derived.Test.YtlihnipbdckmkaaDrwC
import Derived.Test.YtlihnipbdckmkaaInvS
import Derived.Deep.RegionLaw
import Derived.Deep.AppendLies
import Derived.Deep.LoopGhost
namespace Go.Proofs.Ytlihnipbdckmkaa
open Go.RowKit

theorem Touch.grown {lo hi : Nat} {a w w' : World} {row : Option Nat} (h : Touch lo hi a w) (hg : w.grownBy w' row) (hr : ∀ k, row = some k → a.heap.size ≤ k) : Touch lo hi a w' :=
  ⟨hg.os.trans h.os, hg.tape.trans h.tape, hg.output.trans h.output, Nat.le_trans h.size hg.size, fun k hk hne => (hg.block k (Nat.lt_of_lt_of_le hk h.size) fun e => by have := hr k e.symm; omega).trans (h.block k hk hne)⟩
theorem owns_touchG {w w' : World} {G base : Nat} {e : TypeId} {size : Nat} {v : Value} {n : Nat} {xs : List Value} (h : w.ownsRow base e size v n xs) (ht : Touch G (G + 1) w w') (hG : G < base) : w'.ownsRow base e size v n xs := by
  refine h.kept (row := some G) ⟨ht.os, ht.tape, ht.output, ht.size, fun i hi hne => ht.block i hi (by have : i ≠ G := fun e => hne (by rw [e]); omega)⟩ ?_
  cases hv : v.ownBlock with
  | none => exact .inl rfl
  | some g => exact .inr (by have := (h.lt g hv).1; simp; omega)
theorem owns_low {w : World} {base base' : Nat} {e : TypeId} {size : Nat} {v : Value} {n : Nat} {xs : List Value} (h : w.ownsRow base e size v n xs) (hb : base' ≤ base) : w.ownsRow base' e size v n xs :=
  ⟨h.1, h.2.imp id fun ⟨g, cap, cur, h1, h2, h3⟩ => ⟨g, cap, cur, h1, Nat.le_trans hb h2, h3⟩⟩
/-- w' is w but for the cursor and new blocks, and reads as wr at the blocks of a list -/
structure DK (w wr : World) (L : List Nat) (g : Nat) (A : Option Addr) (n cap T : Nat) (w' : World) : Prop where
  touch : Touch g (g + 1) w w'
  same : ∀ b ∈ L, b < w'.heap.size ∧ w'.heap[b]? = wr.heap[b]?
  dr : Dr w' g A n cap T
theorem DK.refl {w wr : World} {L : List Nat} {g : Nat} {A : Option Addr} {n cap T : Nat} (ht : Touch g (g + 1) w wr) (hL : ∀ b ∈ L, b < wr.heap.size) (hd : Dr wr g A n cap T) : DK w wr L g A n cap T wr := ⟨ht, fun b h => ⟨hL b h, rfl⟩, hd⟩
theorem DK.drew {w wr w' : World} {L : List Nat} {g : Nat} {A : Option Addr} {n cap T : Nat} (h : DK w wr L g A n cap T w') : DK w wr L g A n cap T w'.drew := ⟨h.touch.drew, h.same, h.dr.drew⟩
theorem DK.step {w wr w' w2 : World} {L : List Nat} {g : Nat} {A : Option Addr} {n cap T T' : Nat} (h : DK w wr L g A n cap T w') (ht : Touch g (g + 1) w' w2) (hn : ∀ b ∈ L, b ≠ g) (hd : Dr w2 g A n cap T') : DK w wr L g A n cap T' w2 :=
  ⟨h.touch.trans ht, fun b hL => ⟨Nat.lt_of_lt_of_le (h.same b hL).1 ht.size, (ht.block b (h.same b hL).1 (by have := hn b hL; omega)).trans (h.same b hL).2⟩, hd⟩
theorem DK.alloc {w wr w' : World} {L : List Nat} {g : Nat} {A : Option Addr} {n cap T : Nat} (h : DK w wr L g A n cap T w') (o : Obj) : DK w wr L g A n cap T (w'.alloc o) :=
  ⟨h.touch.alloc o, fun b hL => ⟨Nat.lt_of_lt_of_le (h.same b hL).1 (by simp), (Below.heap_alloc w' o b (h.same b hL).1).trans (h.same b hL).2⟩, h.dr.alloc o⟩
theorem DK.grown {w wr w' w2 : World} {L : List Nat} {g : Nat} {A : Option Addr} {n cap T cap0 T0 : Nat} {row : Option Nat} (h : DK w wr L g A n cap T w') (h0 : Dr w g A n cap0 T0) (hg : w'.grownBy w2 row) (hr : ∀ k, row = some k → w.heap.size ≤ k ∧ ∀ b ∈ L, b ≠ k) : DK w wr L g A n cap T w2 :=
  have ht := h.touch.grown hg fun k hk => (hr k hk).1
  ⟨ht, fun b hL => ⟨Nat.lt_of_lt_of_le (h.same b hL).1 hg.size, (hg.block b (h.same b hL).1 fun e => (hr b e.symm).2 b hL rfl).trans (h.same b hL).2⟩,
    h.dr.keep h0 ht hg.size (hg.block g h.dr.lt fun e => by have := (hr g e.symm).1; have := h0.lt; omega) (Nat.le_refl _)⟩
theorem DK.row {w wr w' : World} {L : List Nat} {g : Nat} {A : Option Addr} {n cap T : Nat} (h : DK w wr L g A n cap T w') {b : Nat} {x : Obj} (hb : b ∈ L) (hx : wr.heap[b]? = some x) : w'.heap[b]? = some x := ((h.same b hb).2).trans hx
theorem DK.cells {w wr w' : World} {L : List Nat} {g : Nat} {A : Option Addr} {n cap T : Nat} (h : DK w wr L g A n cap T w') {b : Nat} (hb : b ∈ L) : ∀ o, w'.cell? ⟨b, o, none⟩ = wr.cell? ⟨b, o, none⟩ := fun o => World.cell?_of_block (a := ⟨b, o, none⟩) (h.same b hb).2
theorem set2_keep {w w4 : World} {g : Nat} {A : Option Addr} {n cap T T0 T' cap0 S : Nat} (h : Dr w4 g A n cap T) (h0 : Dr w g A n cap0 T0) (ht : Touch g (g + 1) w w4) (hT : T ≤ T') (hS : w.heap.size ≤ S) (a b : Value) :
    Dr ((w4.setCell ⟨S, 0, none⟩ a).setCell ⟨S, 1, none⟩ b) g A n cap T' ∧ Touch g (g + 1) w ((w4.setCell ⟨S, 0, none⟩ a).setCell ⟨S, 1, none⟩ b) := by
  have t1 := ht.setNew (p := ⟨S, 0, none⟩) hS a
  have t2 := t1.setNew (p := ⟨S, 1, none⟩) hS b
  have d1 := h.store h0 ht (p := ⟨S, 0, none⟩) hS a
  have d2 := d1.store h0 t1 (p := ⟨S, 1, none⟩) hS b
  exact ⟨d2.more hT, t2⟩
theorem owns_set2 {w : World} {base : Nat} {e : TypeId} {size : Nat} {v : Value} {n : Nat} {xs : List Value} {S : Nat} (h : w.ownsRow base e size v n xs) (hS : v.ownBlock ≠ some S) (a b : Value) : ((w.setCell ⟨S, 0, none⟩ a).setCell ⟨S, 1, none⟩ b).ownsRow base e size v n xs :=
  owns_set (p := ⟨S, 1, none⟩) (owns_set (p := ⟨S, 0, none⟩) h hS a) hS b
/-- a circuit in memory of the call's own, within bounds, and the cursor -/
def SomeC (w : World) (g : Nat) (A : Option Addr) (n cap T : Nat) (lo hi : Int) (m : Nat) (e : Ending) (w' : World) : Prop :=
  ∃ (q : Int) (A' : Option Addr) (cap' : Nat) (xs : List G3), e = .returned (cv q A' xs.length cap') ∧ lo ≤ q ∧ q ≤ hi ∧ xs.length ≤ m ∧ w'.ownsRow w.heap.size 29 3 (.slice A' xs.length cap') xs.length ((flatG xs).map (Value.int .i64)) ∧ Dr w' g A n cap T ∧ Touch g (g + 1) w w'

set_option maxRecDepth 100000 in
set_option maxHeartbeats 8000000 in
theorem built_any (g : Nat) (A : Option Addr) (n cap T : Nat) (q : Int) (m : Nat) (kb kc : Nat) (zs : List Int) (w : World) (hd : Hid (Dr w g A n cap T)) (hT : T ≤ 600000) (hq1 : 1 ≤ q) (hq2 : q ≤ 1000) (hm : m ≤ 100) (hl1 : 1 ≤ zs.length) (hl2 : zs.length ≤ 1000) (hbg : kb ≠ g) (hbl : kb < w.heap.size)
    (hz : Hid (∀ j z, zs[j]? = some z → w.cell? ⟨kb, j, none⟩ = some (.int .i64 z))) :
    Calls Try.prog 41 #[.pointer (some ⟨g, 0, none⟩), .int .i64 q, .int .i64 (m : Int), .slice (some ⟨kb, 0, none⟩) zs.length kc] w fun e w' => SomeC w g A n cap (T + 1000) q q m e w' := by
  have hg := hd.out.lt
  obtain ⟨i0, hi, hz0, hz1, hz2⟩ := info_parts Try.infoGate
  go_enter Try.func41, Try.ntmps41
  go_wp2_with fail
  generalize hW0 : (w.alloc (.cells #[.int .i64 0, .slice none 0 0] 38)).alloc (.cells #[.int .i64 q, .slice none 0 0] 38) = W0
  have t0 : Touch g (g + 1) w W0 := by rw [← hW0]; exact ((Touch.refl _ _ _).alloc _).alloc _
  have hd0 : Hid (Dr W0 g A n cap T) := by rw [← hW0]; exact (hd.out.alloc _).alloc _
  have HZ : Hid (ZeroC W0 w.heap.size) := by rw [← hW0]; exact (Below.heap_alloc _ _ _ (by go_size)).trans (heap_top _ _ rfl)
  have HR : Hid (W0.heap[w.heap.size + 1]? = some (.cells #[.int .i64 q, .slice none 0 0] 38 (0, 0))) := by rw [← hW0]; exact heap_top _ _ (by simp)
  have hs0 : w.heap.size + 1 < W0.heap.size := by rw [← hW0]; go_size
  clear hW0
  refine (pick_any g A n cap T (m + 1) _ hd0 (by omega) (by omega) (by omega)).mono ?_
  rintro e w1 ⟨K, rfl, hk0, hk1, hd1, ht1⟩
  obtain ⟨K, rfl⟩ := Int.eq_ofNat_of_zero_le hk0
  have hKm : K ≤ m := by omega
  have Hd1 := Lib.hid hd1
  have HZ1 : Hid (ZeroC w1 w.heap.size) := (ht1.block _ (by omega) (by omega)).trans HZ.out
  have HM1 : Hid (MadeC w1 (w.heap.size + 1) (w.heap.size + 2) (w.heap.size + 1) q []) :=
    ⟨none, 0, (ht1.block _ (by omega) (by omega)).trans HR.out, World.ownsRow_nil _ _ _ _, fun k hk => by cases hk⟩
  have T1 := t0.trans ht1
  clear hd1 ht1 HZ HR hd0 t0 hk0 hk1 hs0
  go_wp2_with fail
  go_loopg [10] K (fun gk s wr => ∃ (k : Nat) (xs : List G3), s = .int .i64 k ∧ k = gk ∧ xs.length + k = K ∧ MadeC wr (w.heap.size + 1) (w.heap.size + 2) (w.heap.size + 1) q xs ∧ ZeroC wr w.heap.size ∧ Dr wr g A n cap (T + 2 + 6 * xs.length) ∧ Touch g (g + 1) w wr)
  case atStart => exact ⟨K, [], rfl, rfl, by simp, HM1.out, HZ1.out, Hd1.out, T1⟩
  case round =>
    obtain ⟨k, xs, rfl, hkg, hxk, hmm, hzz, hd2, ht2⟩ := hrel
    have Hdr := Lib.hid hd2
    have Hz := Lib.hid hzz
    have Hkg := Lib.hid hkg
    have zr := ht2.size
    obtain ⟨A', cap', hb2, hown, hne⟩ := hmm
    have zb2 : w.heap.size + 1 < wr.heap.size := (Array.getElem?_eq_some_iff.1 hb2).1
    have k0 := cell_of_row wr (w.heap.size + 1) 0 _ _ _ hb2
    have k1 := cell_of_row wr (w.heap.size + 1) 1 _ _ _ hb2
    have kf := frozen_of_row wr (w.heap.size + 1) 1 _ _ hb2
    have Hb2 := Lib.hid hb2
    have Hown := Lib.hid hown
    clear hb2 hown hne hd2 hzz hkg
    by_cases hk0 : 0 < k
    · obtain ⟨j, rfl⟩ : ∃ j, k = j + 1 := ⟨k - 1, by omega⟩
      rw [show (((j + 1 : Nat) : Int)) = (j : Int) + 1 from by omega]
      have hxl : xs.length ≤ 100 := by omega
      have Hkb : Hid (∀ W, Touch g (g + 1) wr W → ∀ j z, zs[j]? = some z → W.cell? ⟨kb, j, none⟩ = some (.int .i64 z)) := fun W hW j z hj => (hW.cell kb j (by omega) (by omega)).trans ((ht2.cell kb j hbl (by omega)).trans (hz.out j z hj))
      have Hgate : Hid (∀ W, W = wr ∨ W = wr.drew → Calls Try.prog 66 #[.pointer (some ⟨g, 0, none⟩), .int .i64 q, .slice (some ⟨kb, 0, none⟩) zs.length kc] W fun e w' => OneG W g A n cap (T + 2 + 6 * xs.length + 6) e w' ∧ Touch g (g + 1) wr w') := by
        rintro W (rfl | rfl)
        · exact (gate_any g A n cap (T + 2 + 6 * xs.length) q kb kc zs _ Hdr (by omega) hq1 hq2 hl1 hl2 hbg (by omega) (Hkb.out _ (Touch.refl _ _ _))).mono fun e w' h => ⟨h, by obtain ⟨_, _, _, h3⟩ := h; exact h3⟩
        · exact (gate_any g A n cap (T + 2 + 6 * xs.length) q kb kc zs _ (Lib.hid Hdr.out.drew) (by omega) hq1 hq2 hl1 hl2 hbg (by show kb < wr.heap.size; omega) (Hkb.out _ (Touch.refl _ _ _).drew)).mono fun e w' h => ⟨h, by obtain ⟨_, _, _, h3⟩ := h; exact ⟨h3.os, h3.tape, h3.output, h3.size, h3.block⟩⟩
      have K0 := Lib.hid (DK.refl (L := [w.heap.size, w.heap.size + 1]) ht2 (by intro b hb; simp at hb; omega) Hdr.out)
      have Hrow : Hid (∀ kk, (Value.slice A' xs.length cap').ownBlock = some kk → w.heap.size ≤ kk ∧ ∀ b ∈ [w.heap.size, w.heap.size + 1], b ≠ kk) := fun kk hk => by
        have := (Hown.out.lt kk hk).1
        refine ⟨by omega, fun b hb => ?_⟩
        simp at hb
        omega
      have Hnel : Hid (∀ b ∈ [w.heap.size, w.heap.size + 1], b ≠ g) := by intro b hb; simp at hb; omega
      have hxx : (xs.length + 1) * 24 ≤ 140737488355328 := by omega
      clear ht2
      go_wp2_with fail
      go_region_law (first | (go_simp; go_at_call 66; refine (Hgate.out _ (by first | exact .inl rfl | exact .inr rfl)).mono ?_; rintro e wA ⟨⟨x, rfl, dA, _⟩, tA⟩; have KA := Lib.hid (DK.step K0.out tA Hnel.out dA); have HownA := Lib.hid (owns_touchG Hown.out tA (by omega)); have fA := KA.out.cells (b := w.heap.size + 1) (by simp); have zA := tA.size; have zA1 : w.heap.size + 1 < wA.heap.size := (by omega); clear tA dA) | (refine step_append_lies _ rfl _ _ _ rfl (w.heap.size + 2) 29 i0 (tv 0 0 0) 3 24 Try.underlying36 hi hz0 hz1 hz2 rfl (by decide) (.slice A' xs.length cap') xs.length ((flatG xs).map (Value.int .i64)) rfl (by first | exact HownA.out.alloc _ | exact World.ownsRow.drew (HownA.out.alloc _) | exact (World.ownsRow.drew HownA.out).alloc _) _ 1 1 [.int .i64 x.1, .int .i64 x.2.1, .int .i64 x.2.2] rfl rfl (World.news_of_block (heap_top _ _ (by simp))) (by intro u hu; simp at hu; rcases hu with rfl | rfl | rfl <;> rfl) (by decide) (by unfold maxLen; omega) (by omega) (by simp; omega) _ rfl ?_; intro g2 cap2 w3 hown' hgrow hat hlt3; have K3 := Lib.hid (by first | exact DK.grown (DK.alloc KA.out _) hd.out hgrow Hrow.out | exact DK.grown (DK.drew (DK.alloc KA.out _)) hd.out hgrow Hrow.out : DK w wr [w.heap.size, w.heap.size + 1] g A n cap _ w3); have hb3 := Lib.hid (K3.out.row (by simp) Hb2.out); have hg2 := Lib.hid hat; have ho' := Lib.hid hown'; clear hown' hgrow hat; have k3 := cell_of_row w3 (w.heap.size + 1) 1 _ _ _ hb3.out; have k3f := frozen_of_row w3 (w.heap.size + 1) 1 _ _ hb3.out))
      all_goals
        go_wp2
        go_roundg j
        case measure => have := Hkg.out; omega
        case rel =>
          have hgn : g2 ≠ w.heap.size + 1 := by
            have := (ho'.out.lt g2 rfl).1
            omega
          refine ⟨j, xs ++ [x], by go_num, rfl, by simp; omega, MadeC.push hb3.out ho'.out (by omega) hgn, (Below.heap_setCell _ _ _ _ (by dsimp only; omega)).trans (K3.out.row (by simp) Hz.out), ?_, K3.out.touch.setNew (by dsimp only; omega) _⟩
          exact (K3.out.dr.store hd.out K3.out.touch (by dsimp only; omega) _).more (by simp; omega)
    · have hk00 : k = 0 := by omega
      subst hk00
      have q0 := cell_of_row wr w.heap.size 0 _ _ _ Hz.out
      have q1 := cell_of_row wr w.heap.size 1 _ _ _ Hz.out
      have qf := fun o => frozen_of_row wr w.heap.size o _ _ Hz.out
      have zw : w.heap.size < wr.heap.size := by omega
      go_wp2
      obtain ⟨d9, t9⟩ := set2_keep (T' := T + 1000) Hdr.out hd.out ht2 (by omega) (Nat.le_refl w.heap.size) (.int .i64 q) (.slice A' xs.length cap')
      refine bodyPost_ret (by simp [results, Try.results41, go_sem, q0, q1]) rfl ⟨q, A', cap', xs, rfl, Int.le_refl _, Int.le_refl _, by omega, ?_, d9, t9⟩
      exact owns_set2 (owns_low Hown.out (by omega)) (fun e => by have := (Hown.out.lt _ e).1; omega) _ _
end Go.Proofs.Ytlihnipbdckmkaa
