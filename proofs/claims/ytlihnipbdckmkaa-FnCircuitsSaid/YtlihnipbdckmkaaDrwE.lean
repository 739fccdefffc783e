/- The reference's draws of circuits: circuit, anyCircuit. -/
import Derived.Test.YtlihnipbdckmkaaDrwD
namespace Go.Proofs.Ytlihnipbdckmkaa
open Go.RowKit

theorem list_newC {w : World} {b : Nat} {t : TypeId} (zs : List Int) (h : w.heap[b]? = some (.cells (zs.map (Value.int .i64)).toArray t (0, 0))) : ∀ j z, zs[j]? = some z → w.cell? ⟨b, j, none⟩ = some (.int .i64 z) := by
  intro j z hz
  rw [cell_of_row w b j _ _ _ h]
  simp [hz]
theorem SomeC.wide {w : World} {g : Nat} {A : Option Addr} {n cap T T' : Nat} {lo hi lo' hi' : Int} {m m' : Nat} {e : Ending} {w' : World} (h : SomeC w g A n cap T lo hi m e w') (h1 : lo' ≤ lo) (h2 : hi ≤ hi') (h3 : m ≤ m') (h4 : T ≤ T') : SomeC w g A n cap T' lo' hi' m' e w' :=
  let ⟨q, A', cap', xs, k1, k2, k3, k4, k5, k6, k7⟩ := h
  ⟨q, A', cap', xs, k1, by omega, by omega, by omega, k5, k6.more h4, k7⟩

set_option maxRecDepth 100000 in
set_option maxHeartbeats 4000000 in
theorem circuit_any (g : Nat) (A : Option Addr) (n cap T : Nat) (w : World) (hd : Hid (Dr w g A n cap T)) (hT : T ≤ 500000) :
    Calls Try.prog 54 #[.pointer (some ⟨g, 0, none⟩)] w fun e w' => SomeC w g A n cap (T + 1002) 1 3 8 e w' := by
  have hg := hd.out.lt
  go_enter Try.func54, Try.ntmps54
  go_wp2_with fail
  generalize hW0 : (w.alloc (.cells #[.int .i64 0, .slice none 0 0] 38)).alloc (.cells #[.int .i64 1, .int .i64 2, .int .i64 2, .int .i64 3] 3) = W0
  have t0 : Touch g (g + 1) w W0 := by rw [← hW0]; exact ((Touch.refl _ _ _).alloc _).alloc _
  have hd0 : Hid (Dr W0 g A n cap T) := by rw [← hW0]; exact (hd.out.alloc _).alloc _
  have HZ : Hid (ZeroC W0 w.heap.size) := by rw [← hW0]; exact (Below.heap_alloc _ _ _ (by go_size)).trans (heap_top _ _ rfl)
  have HL : Hid (∀ j z, [(1 : Int), 2, 2, 3][j]? = some z → W0.cell? ⟨w.heap.size + 1, j, none⟩ = some (.int .i64 z)) := by rw [← hW0]; exact list_newC [1, 2, 2, 3] (heap_top _ _ (by simp))
  have hs0 : w.heap.size + 1 < W0.heap.size := by rw [← hW0]; go_size
  clear hW0
  refine (among_any g A n cap T (w.heap.size + 1) 4 [1, 2, 2, 3] _ hd0 (by omega) (by decide) (by decide) (by omega) hs0 HL).mono ?_
  rintro e w1 ⟨q, rfl, hq, hd1, ht1⟩
  have hq3 : 1 ≤ q ∧ q ≤ 3 := by simp at hq; omega
  have HZ1 : Hid (ZeroC w1 w.heap.size) := (ht1.block _ (by omega) (by omega)).trans HZ.out
  have T1 := t0.trans ht1
  have Hd1 := Lib.hid hd1
  have zs1 := T1.size
  have ys1 : w.heap.size < w1.heap.size := by have := ht1.size; omega
  clear hq hd1 ht1 HZ HL hd0 t0 hs0
  go_wp2_with fail
  generalize hW1 : w1.alloc (.cells #[.int .i64 1, .int .i64 2, .int .i64 3, .int .i64 4, .int .i64 5, .int .i64 6, .int .i64 7, .int .i64 8, .int .i64 9, .int .i64 9, .int .i64 10, .int .i64 11, .int .i64 12, .int .i64 7, .int .i64 1] 3) = W1
  have T2 : Touch g (g + 1) w W1 := by rw [← hW1]; exact T1.alloc _
  have Hd2 : Hid (Dr W1 g A n cap (T + 2)) := by rw [← hW1]; exact Hd1.out.alloc _
  have HZ2 : Hid (ZeroC W1 w.heap.size) := by rw [← hW1]; exact (Below.heap_alloc _ _ _ ys1).trans HZ1.out
  have HL : Hid (∀ j z, [(1 : Int), 2, 3, 4, 5, 6, 7, 8, 9, 9, 10, 11, 12, 7, 1][j]? = some z → W1.cell? ⟨w1.heap.size, j, none⟩ = some (.int .i64 z)) := by rw [← hW1]; exact list_newC [1, 2, 3, 4, 5, 6, 7, 8, 9, 9, 10, 11, 12, 7, 1] (heap_top _ _ rfl)
  have hs2 : w1.heap.size < W1.heap.size := by rw [← hW1]; go_size
  clear hW1 Hd1 HZ1 T1
  refine (built_any g A n cap (T + 2) q 8 w1.heap.size 15 [1, 2, 3, 4, 5, 6, 7, 8, 9, 9, 10, 11, 12, 7, 1] _ Hd2 (by omega) hq3.1 (by omega) (by omega) (by decide) (by decide) (by omega) hs2 HL).mono ?_
  rintro e w2 ⟨q', A', cap', xs, rfl, hq1', hq2', hxl, hown, hd3, ht3⟩
  have HZ3 := Lib.hid ((ht3.block w.heap.size (by omega) (by omega)).trans HZ2.out)
  have T3 := T2.trans ht3
  have zs3 := ht3.size
  have Hown := Lib.hid hown
  have Hd3 := Lib.hid hd3
  have q0 := cell_of_row w2 w.heap.size 0 _ _ _ HZ3.out
  have q1 := cell_of_row w2 w.heap.size 1 _ _ _ HZ3.out
  have qf := fun o => frozen_of_row w2 w.heap.size o _ _ HZ3.out
  have zw : w.heap.size < w2.heap.size := by omega
  clear hown hd3 ht3 HL HZ2 Hd2
  go_wp2
  obtain ⟨d9, t9⟩ := set2_keep (T' := T + 1002) Hd3.out hd.out T3 (by omega) (Nat.le_refl w.heap.size) (.int .i64 q') (.slice A' xs.length cap')
  refine bodyPost_ret (by simp [results, Try.results54, go_sem, q0, q1]) rfl ⟨q', A', cap', xs, rfl, by omega, by omega, hxl, ?_, d9, t9⟩
  exact owns_set2 (owns_low Hown.out (by omega)) (fun e => by have := (Hown.out.lt _ e).1; omega) _ _

set_option maxRecDepth 100000 in
set_option maxHeartbeats 8000000 in
theorem anyCircuit_any (g : Nat) (A : Option Addr) (n cap T : Nat) (w : World) (hd : Hid (Dr w g A n cap T)) (hT : T ≤ 400000) :
    Calls Try.prog 40 #[.pointer (some ⟨g, 0, none⟩)] w fun e w' => SomeC w g A n cap (T + 1020) 0 6 9 e w' := by
  have hg := hd.out.lt
  obtain ⟨i0, hi, hz0, hz1, hz2⟩ := info_parts Try.infoGate
  go_enter Try.func40, Try.ntmps40
  go_wp2_with fail
  generalize hW0 : w.alloc (.cells #[.int .i64 0, .slice none 0 0] 38) = W0
  have t0 : Touch g (g + 1) w W0 := by rw [← hW0]; exact (Touch.refl _ _ _).alloc _
  have hd0 : Hid (Dr W0 g A n cap T) := by rw [← hW0]; exact hd.out.alloc _
  have HZ : Hid (ZeroC W0 w.heap.size) := by rw [← hW0]; exact heap_top _ _ rfl
  have hs0 : w.heap.size + 1 ≤ W0.heap.size := by rw [← hW0]; go_size
  clear hW0
  refine (circuit_any g A n cap T _ hd0 (by omega)).mono ?_
  rintro e w1 ⟨q, A', cap', xs, rfl, hq1, hq2, hxl, hown, hd1, ht1⟩
  have HZ1 : Hid (ZeroC w1 w.heap.size) := (ht1.block _ (by omega) (by omega)).trans HZ.out
  have T1 := t0.trans ht1
  have zs1 := ht1.size
  have ys1 : w.heap.size < w1.heap.size := by omega
  have Hd1 := Lib.hid hd1
  have Hown1 := Lib.hid (owns_low hown hs0)
  clear hd1 ht1 HZ hd0 t0 hown
  go_upto_region 2 with fail
  generalize hW1 : w1.alloc (.cells #[.int .i64 q, .slice A' xs.length cap'] 38) = W1
  have T2 : Touch g (g + 1) w W1 := by rw [← hW1]; exact T1.alloc _
  have Hd2 : Hid (Dr W1 g A n cap (T + 1002)) := by rw [← hW1]; exact Hd1.out.alloc _
  have HZ2 : Hid (ZeroC W1 w.heap.size) := by rw [← hW1]; exact (Below.heap_alloc _ _ _ ys1).trans HZ1.out
  have HX2 : Hid (W1.heap[w1.heap.size]? = some (.cells #[.int .i64 q, .slice A' xs.length cap'] 38 (0, 0))) := by rw [← hW1]; exact heap_top _ _ rfl
  have Hown2 : Hid (W1.ownsRow (w.heap.size + 1) 29 3 (.slice A' xs.length cap') xs.length ((flatG xs).map (Value.int .i64))) := by rw [← hW1]; exact Hown1.out.alloc _
  have Hne : Hid (∀ kk, (Value.slice A' xs.length cap').ownBlock = some kk → w.heap.size + 1 ≤ kk ∧ kk ≠ w1.heap.size) := fun kk hk => by have := Hown1.out.lt kk hk; omega
  have hs2 : w1.heap.size < W1.heap.size := by rw [← hW1]; go_size
  clear hW1 Hd1 HZ1 T1 Hown1
  go_wp2_with fail
  refine (pick_any g A n cap _ 14 _ Hd2 (by omega) (by decide) (by decide)).mono ?_
  rintro e w2 ⟨k, rfl, hk0, hk1, hd3, ht3⟩
  have HZ3 := Lib.hid ((ht3.block w.heap.size (by omega) (by omega)).trans HZ2.out)
  have HX3 := Lib.hid ((ht3.block w1.heap.size (by omega) (by omega)).trans HX2.out)
  have Hown3 := Lib.hid (owns_touchG Hown2.out ht3 (by omega))
  have T3 := T2.trans ht3
  have zs3 := ht3.size
  have Hd3 := Lib.hid hd3
  have zw : w.heap.size < w2.heap.size := by omega
  have zx : w1.heap.size < w2.heap.size := by omega
  clear hd3 ht3 HZ2 HX2 Hown2 Hd2 T2
  by_cases h0 : k = 0
  · subst h0
    go_wp2_with fail
    generalize hW2 : w2.alloc (.cells #[.int .i64 0, .int .i64 1, .int .i64 5, .int .i64 6] 3) = W2
    have T4 : Touch g (g + 1) w W2 := by rw [← hW2]; exact T3.alloc _
    have Hd4 : Hid (Dr W2 g A n cap (T + 1002 + 2)) := by rw [← hW2]; exact Hd3.out.alloc _
    have HZ4 : Hid (ZeroC W2 w.heap.size) := by rw [← hW2]; exact (Below.heap_alloc _ _ _ zw).trans HZ3.out
    have HX4 : Hid (W2.heap[w1.heap.size]? = some (.cells #[.int .i64 q, .slice A' xs.length cap'] 38 (0, 0))) := by rw [← hW2]; exact (Below.heap_alloc _ _ _ zx).trans HX3.out
    have Hown4 : Hid (W2.ownsRow (w.heap.size + 1) 29 3 (.slice A' xs.length cap') xs.length ((flatG xs).map (Value.int .i64))) := by rw [← hW2]; exact Hown3.out.alloc _
    have HL : Hid (∀ j z, [(0 : Int), 1, 5, 6][j]? = some z → W2.cell? ⟨w2.heap.size, j, none⟩ = some (.int .i64 z)) := by rw [← hW2]; exact list_newC [0, 1, 5, 6] (heap_top _ _ rfl)
    have hs4 : w2.heap.size < W2.heap.size := by rw [← hW2]; go_size
    clear hW2 Hd3 HZ3 HX3 Hown3 T3
    refine (among_any g A n cap _ w2.heap.size 4 [0, 1, 5, 6] _ Hd4 (by omega) (by decide) (by decide) (by omega) hs4 HL).mono ?_
    rintro e w3 ⟨q', rfl, hq', hd5, ht5⟩
    have hq6 : 0 ≤ q' ∧ q' ≤ 6 := by simp at hq'; omega
    have HZ5 := Lib.hid ((ht5.block w.heap.size (by omega) (by omega)).trans HZ4.out)
    have HX5 := Lib.hid ((ht5.block w1.heap.size (by omega) (by omega)).trans HX4.out)
    have Hown5 := Lib.hid (owns_touchG Hown4.out ht5 (by omega))
    have T5 := T4.trans ht5
    have zs5 := ht5.size
    have Hd5 := Lib.hid hd5
    have q0 := cell_of_row w3 w.heap.size 0 _ _ _ HZ5.out
    have q1 := cell_of_row w3 w.heap.size 1 _ _ _ HZ5.out
    have qf := fun o => frozen_of_row w3 w.heap.size o _ _ HZ5.out
    have x0 := cell_of_row w3 w1.heap.size 0 _ _ _ HX5.out
    have x1 := cell_of_row w3 w1.heap.size 1 _ _ _ HX5.out
    have xf := fun o => frozen_of_row w3 w1.heap.size o _ _ HX5.out
    have zw5 : w.heap.size < w3.heap.size := by omega
    have zx5 : w1.heap.size < w3.heap.size := by omega
    clear hd5 ht5 HL HZ4 HX4 Hd4 T4 Hown4 hq'
    go_wp2
    have Hd6 := Hd5.out.store hd.out T5 (p := ⟨w1.heap.size, 0, none⟩) (by dsimp only; omega) (.int .i64 q')
    have T6 := T5.setNew (p := ⟨w1.heap.size, 0, none⟩) (by dsimp only; omega) (.int .i64 q')
    obtain ⟨d9, t9⟩ := set2_keep (T' := T + 1020) Hd6 hd.out T6 (by omega) (Nat.le_refl w.heap.size) (.int .i64 q') (.slice A' xs.length cap')
    refine bodyPost_ret (by simp [results, Try.results40, go_sem, q0, q1]) rfl ⟨q', A', cap', xs, rfl, hq6.1, hq6.2, by omega, ?_, d9, t9⟩
    exact owns_set2 (owns_set (p := ⟨w1.heap.size, 0, none⟩) (owns_low Hown5.out (by omega)) (fun e => (Hne.out _ e).2 rfl) _) (fun e => by have := (Hne.out _ e).1; omega) _ _
  have f0 : (k == 0) = false := by simpa using h0
  by_cases h1 : k = 1
  · subst h1
    have k0 := cell_of_row w2 w1.heap.size 0 _ _ _ HX3.out
    have k1 := cell_of_row w2 w1.heap.size 1 _ _ _ HX3.out
    have kf := frozen_of_row w2 w1.heap.size 1 _ _ HX3.out
    have K0 := Lib.hid (DK.refl (L := [w.heap.size, w1.heap.size]) T3 (by intro b hb; simp at hb; omega) Hd3.out)
    have Hrow : Hid (∀ kk, (Value.slice A' xs.length cap').ownBlock = some kk → w.heap.size ≤ kk ∧ ∀ b ∈ [w.heap.size, w1.heap.size], b ≠ kk) := fun kk hk => by
      have := Hne.out kk hk
      refine ⟨by omega, fun b hb => ?_⟩
      simp at hb
      omega
    have Hnel : Hid (∀ b ∈ [w.heap.size, w1.heap.size], b ≠ g) := by intro b hb; simp at hb; omega
    have Hpick : Hid (∀ (W : World) (T' : Nat) (m : Int), DK w w2 [w.heap.size, w1.heap.size] g A n cap T' W → T' ≤ 900000 → 1 ≤ m → m ≤ 14 → Calls Try.prog 52 #[.pointer (some ⟨g, 0, none⟩), .int .i64 m] W fun e w' => ∃ k : Int, e = .returned (.int .i64 k) ∧ 0 ≤ k ∧ k < m ∧ DK w w2 [w.heap.size, w1.heap.size] g A n cap (T' + 2) w' ∧ Touch g (g + 1) W w') := fun W T' m hK hT' hm1 hm2 =>
      (pick_any g A n cap T' m W (Lib.hid hK.dr) hT' hm1 (by omega)).mono fun e w' ⟨k, he, h1, h2, h3, h4⟩ => ⟨k, he, h1, h2, hK.step h4 Hnel.out h3, h4⟩
    have hw4 : ∀ k : Int, 0 ≤ k → k < 4 → IntKind.wrap .i64 (k - 1) = k - 1 := fun k h1 h2 => IntWalk.i64_in _ (by omega)
    clear T3 f0 h0 hk0 hk1
    go_wp2_with fail
    go_region_law (first | (go_simp; go_at_call 52; (with_reducible refine (Hpick.out _ _ 4 (by first | exact KB.out | exact KB.out.drew) (by omega) (by omega) (by omega)).mono ?_); rintro e wC ⟨c, rfl, hc0, hc1, KC', tC'⟩; have hwc := hw4 c hc0 hc1; have KC := Lib.hid KC'; have tC : Touch g (g + 1) wB wC := (by first | exact tC' | exact ⟨tC'.os, tC'.tape, tC'.output, tC'.size, tC'.block⟩); have HownC := Lib.hid (owns_touchG HownB.out tC (by omega)); have fC := KC.out.cells (b := w1.heap.size) (by simp); have zC := tC.size; have zC1 : w1.heap.size < wC.heap.size := (by omega); clear tC tC' KC' hc0 hc1) | (go_simp; go_at_call 52; (with_reducible refine (Hpick.out _ _ 4 (by first | exact KA.out | exact KA.out.drew) (by omega) (by omega) (by omega)).mono ?_); rintro e wB ⟨b, rfl, hb0, hb1, KB', tB'⟩; have hwb := hw4 b hb0 hb1; have KB := Lib.hid KB'; have tB : Touch g (g + 1) wA wB := (by first | exact tB' | exact ⟨tB'.os, tB'.tape, tB'.output, tB'.size, tB'.block⟩); have HownB := Lib.hid (owns_touchG HownA.out tB (by omega)); have fB := KB.out.cells (b := w1.heap.size) (by simp); have zB := tB.size; have zB1 : w1.heap.size < wB.heap.size := (by omega); clear tB tB' KB' hb0 hb1) | (go_simp; go_at_call 52; (with_reducible refine (Hpick.out _ _ 14 (by first | exact K0.out | exact K0.out.drew) (by omega) (by omega) (by omega)).mono ?_); rintro e wA ⟨a, rfl, ha0, ha1, KA', tA'⟩; have KA := Lib.hid KA'; have tA : Touch g (g + 1) w2 wA := (by first | exact tA' | exact ⟨tA'.os, tA'.tape, tA'.output, tA'.size, tA'.block⟩); have HownA := Lib.hid (owns_touchG Hown3.out tA (by omega)); have fA := KA.out.cells (b := w1.heap.size) (by simp); have zA := tA.size; have zA1 : w1.heap.size < wA.heap.size := (by omega); clear tA tA' KA' ha0 ha1) | (refine step_append_lies _ rfl _ _ _ rfl (w.heap.size + 1) 29 i0 (tv 0 0 0) 3 24 Try.underlying36 hi hz0 hz1 hz2 rfl (by decide) (.slice A' xs.length cap') xs.length ((flatG xs).map (Value.int .i64)) rfl (by first | exact HownC.out.alloc _ | exact World.ownsRow.drew (HownC.out.alloc _) | exact (World.ownsRow.drew HownC.out).alloc _) _ 1 1 [.int .i64 a, .int .i64 (b - 1), .int .i64 (c - 1)] rfl rfl (World.news_of_block (heap_top _ _ (by simp))) (by intro u hu; simp at hu; rcases hu with rfl | rfl | rfl <;> rfl) (by decide) (by unfold maxLen; omega) (by omega) (by simp; omega) _ rfl ?_; intro g2 cap2 w3 hown' hgrow hat hlt3; have K3 := Lib.hid (by first | exact DK.grown (DK.alloc KC.out _) hd.out hgrow Hrow.out | exact DK.grown (DK.drew (DK.alloc KC.out _)) hd.out hgrow Hrow.out : DK w w2 [w.heap.size, w1.heap.size] g A n cap _ w3); have hb3 := Lib.hid (K3.out.row (by simp) HX3.out); have hz3 := Lib.hid (K3.out.row (by simp) HZ3.out); have hg2 := Lib.hid hat; have ho' := Lib.hid hown'; clear hown' hgrow hat; have k3 := fun o => cell_of_row w3 w1.heap.size o _ _ _ hb3.out; have k3f := fun o => frozen_of_row w3 w1.heap.size o _ _ hb3.out; have r3 := fun o => cell_of_row w3 w.heap.size o _ _ _ hz3.out; have r3f := fun o => frozen_of_row w3 w.heap.size o _ _ hz3.out))
    all_goals
      go_wp2
      have Hd6 := K3.out.dr.store hd.out K3.out.touch (p := ⟨w1.heap.size, 1, none⟩) (by dsimp only; omega) (.slice (some ⟨g2, 0, none⟩) (xs.length + 1) cap2)
      have T6 := K3.out.touch.setNew (p := ⟨w1.heap.size, 1, none⟩) (by dsimp only; omega) (.slice (some ⟨g2, 0, none⟩) (xs.length + 1) cap2)
      obtain ⟨d9, t9⟩ := set2_keep (T' := T + 1020) Hd6 hd.out T6 (by omega) (Nat.le_refl w.heap.size) (.int .i64 q) (.slice (some ⟨g2, 0, none⟩) (xs.length + 1) cap2)
      have e2 : (xs ++ [(a, b - 1, c - 1)]).length = xs.length + 1 := by simp
      refine bodyPost_ret (v := cv q (some ⟨g2, 0, none⟩) (xs.length + 1) cap2) (by simp [results, Try.results40, go_sem, r3]) rfl ⟨q, some ⟨g2, 0, none⟩, cap2, xs ++ [(a, b - 1, c - 1)], by rw [e2], by omega, by omega, by omega, ?_, d9, t9⟩
      rw [e2, flatG_append, List.map_append]
      exact owns_set2 (owns_set (p := ⟨w1.heap.size, 1, none⟩) (owns_low ho'.out (by omega)) (owns_ne ho'.out hb3.out (by decide)) _) (fun e => by have := (ho'.out.lt _ e).1; omega) _ _
  have f1 : (k == 1) = false := by simpa using h1
  have q0 := cell_of_row w2 w.heap.size 0 _ _ _ HZ3.out
  have q1 := cell_of_row w2 w.heap.size 1 _ _ _ HZ3.out
  have qf := fun o => frozen_of_row w2 w.heap.size o _ _ HZ3.out
  have x0 := cell_of_row w2 w1.heap.size 0 _ _ _ HX3.out
  have x1 := cell_of_row w2 w1.heap.size 1 _ _ _ HX3.out
  clear h0 h1
  go_wp2
  obtain ⟨d9, t9⟩ := set2_keep (T' := T + 1020) Hd3.out hd.out T3 (by omega) (Nat.le_refl w.heap.size) (.int .i64 q) (.slice A' xs.length cap')
  refine bodyPost_ret (by simp [results, Try.results40, go_sem, q0, q1]) rfl ⟨q, A', cap', xs, rfl, by omega, by omega, by omega, ?_, d9, t9⟩
  exact owns_set2 (owns_low Hown3.out (by omega)) (fun e => by have := (Hne.out _ e).1; omega) _ _
end Go.Proofs.Ytlihnipbdckmkaa
