/- GateMatrix of the program. -/
import Derived.Test.YtlihnipbdckmkaaGmClo
import Derived.Test.YtlihnipbdckmkaaWhole
import Derived.Deep.RegionHeld3
import Derived.Test.YtlihnipbdckmkaaDraw
namespace Go.Proofs.Ytlihnipbdckmkaa
open Go.RowKit

def gmN (n : Int) : Nat := 2 ^ n.toNat
def gmL (n k a b : Int) : List D5 := cellsM (gmN n) (gmN n * gmN n) (gmD k.toNat (n - 1 - a).toNat (n - 1 - b).toNat)
/-- the pieces of a valid gate -/
theorem valid_parts {n k a b : Int} (h : validB n k a b = true) : ∃ N K P Q sa sb : Nat, n = (N : Int) ∧ k = (K : Int) ∧ a = (P : Int) ∧ b = (Q : Int) ∧ 1 ≤ N ∧ N ≤ 5 ∧ 1 ≤ K ∧ K ≤ 12 ∧ (N : Int) - 1 - (P : Int) = (sa : Int) ∧ (N : Int) - 1 - (Q : Int) = (sb : Int) ∧ sa < 5 ∧ sb < 5 ∧ (9 ≤ K → K ≤ 11 → sa ≠ sb) := by
  obtain ⟨hn, hg⟩ : inB n 1 5 = true ∧ gateB n k a b = true := by simpa [validB] using h
  have hn := inB_t.1 hn
  unfold gateB at hg
  rcases h8 : inB k 1 8 with _ | _
  · rcases h11 : inB k 9 11 with _ | _
    · rw [h8, h11] at hg
      obtain ⟨⟨h1, h2⟩, h3⟩ : (k = 12 ∧ a = 0) ∧ b = 0 := by simpa using hg
      exact ⟨n.toNat, k.toNat, a.toNat, b.toNat, (n - 1 - a).toNat, (n - 1 - b).toNat, by omega, by omega, by omega, by omega, by omega, by omega, by omega, by omega, by omega, by omega, by omega, by omega, by omega⟩
    · rw [h8, h11] at hg
      obtain ⟨⟨h1, h2⟩, h3⟩ : (inB a 0 (n - 1) = true ∧ inB b 0 (n - 1) = true) ∧ ¬ a = b := by simpa using hg
      have h1 := inB_t.1 h1
      have h2 := inB_t.1 h2
      have h4 := inB_t.1 h11
      exact ⟨n.toNat, k.toNat, a.toNat, b.toNat, (n - 1 - a).toNat, (n - 1 - b).toNat, by omega, by omega, by omega, by omega, by omega, by omega, by omega, by omega, by omega, by omega, by omega, by omega, by omega⟩
  · rw [h8] at hg
    obtain ⟨h1, h2⟩ : inB a 0 (n - 1) = true ∧ b = 0 := by simpa using hg
    have h1 := inB_t.1 h1
    have h4 := inB_t.1 h8
    exact ⟨n.toNat, k.toNat, a.toNat, b.toNat, (n - 1 - a).toNat, (n - 1 - b).toNat, by omega, by omega, by omega, by omega, by omega, by omega, by omega, by omega, by omega, by omega, by omega, by omega, by omega⟩
/-- the closure at any gate -/
theorem gmCell_any (N K P Q sa sb i j : Nat) (bg bn : Nat) (w : World) (hN : N ≤ 5) (hK1 : 1 ≤ K) (hK : K ≤ 12) (ha : (N : Int) - 1 - (P : Int) = (sa : Int)) (hb : (N : Int) - 1 - (Q : Int) = (sb : Int)) (hsa : sa < 5) (hsb : sb < 5) (hi : i < 32) (hj : j < 32)
    (hg : Hid (LocG w bg K P Q)) (hbn : Hid (bn < w.heap.size ∧ w.cell? ⟨bn, 0, none⟩ = some (.int .i64 (N : Int)))) :
    Calls Try.prog 29 #[.int .i64 (i : Int), .int .i64 (j : Int), .pointer (some ⟨bg, 0, none⟩), .pointer (some ⟨bn, 0, none⟩)] w fun e w' => e = .returned (dyRes true (gmD K sa sb i j)) ∧ Below w.heap.size w w' := by
  by_cases h12 : K = 12
  · exact gmW_any K P Q sa sb i j bg bn w h12 hg
  by_cases h9 : 9 ≤ K
  · exact gmT_any N K P Q sa sb i j bg bn w h9 (by omega) hN hsa hsb hi ha hb hg hbn
  · exact gmO_any N K P Q sa sb i j bg bn w hK1 (by omega) hN hsa hi hj ha hg hbn
theorem gmN_le {N : Nat} (h1 : 1 ≤ N) (h : N ≤ 5) : 2 ≤ 2 ^ N ∧ 2 ^ N ≤ 32 := by
  obtain rfl | rfl | rfl | rfl | rfl : N = 1 ∨ N = 2 ∨ N = 3 ∨ N = 4 ∨ N = 5 := by omega
  all_goals decide
theorem gmN_dim {N : Nat} (h1 : 1 ≤ N) (h : N ≤ 5) : dimB ((2 ^ N : Nat) : Int) = true := by
  obtain rfl | rfl | rfl | rfl | rfl : N = 1 ∨ N = 2 ∨ N = 3 ∨ N = 4 ∨ N = 5 := by omega
  all_goals decide

set_option maxRecDepth 100000 in
set_option maxHeartbeats 8000000 in
theorem implGm_any (n k a b : Int) (w : World) :
    Calls Try.prog 7 #[.int .i64 n, tv k a b] w fun e w' => MRes e w w' (validB n k a b) (gmN n) (gmN n) (gmL n k a b) := by
  have hmf := fun (fn : Fn) (first cap : Array Value) (w : World) => (rfl : (Instr.makeFunc fn first cap).run Try.prog w = .ok (.func fn first cap) w)
  rcases hok : validB n k a b with _ | _
  · go_enter Try.func7, Try.ntmps7
    go_wp2_with fail
    refine (implValidGate_any n k a b _).mono ?_
    rintro e w1 ⟨rfl, b1⟩
    obtain ⟨b1c, b1f⟩ := bcell b1
    have z1 := b1.size
    try simp only [World.size_alloc] at z1
    have B1 : Below w.heap.size w w1 := Below.chain (Below.refl _ _) (by go_grown) b1 (by go_size)
    have y10 : w.heap.size < w1.heap.size := by omega
    have y11 : w.heap.size + 1 < w1.heap.size := by omega
    have y12 : w.heap.size + 2 < w1.heap.size := by omega
    rw [hok]
    go_wp2
    refine bodyPost_ret (by simp [results, Try.results7, go_sem, b1c]) rfl (MRes.no rfl ?_)
    go_grown
  have Hok := Lib.hid hok
  obtain ⟨N, K, P, Q, sa, sb, rfl, rfl, rfl, rfl, hN1, hN5, hK1, hK12, hsa, hsb, hsa5, hsb5, _⟩ := valid_parts hok
  obtain ⟨D, hD⟩ : ∃ D : Nat, D = 2 ^ N := ⟨_, rfl⟩
  have hDl := gmN_le hN1 hN5
  have hDd := gmN_dim hN1 hN5
  have eN : gmN (N : Int) = D := by rw [hD]; simp [gmN]
  have eL : gmL (N : Int) (K : Int) (P : Int) (Q : Int) = cellsM D (D * D) (gmD K sa sb) := by rw [gmL, eN, hsa, hsb]; simp
  rw [eN, eL]
  rw [← hD] at hDl hDd
  have hw : IntKind.wrap .i64 ((2 : Int) ^ N) = (D : Int) := by
    have e : ((2 : Int) ^ N) = (D : Int) := by rw [hD]; simp
    rw [e]
    exact IntWalk.i64_in _ (by omega)
  have HM : Hid (∀ (w1 W : World) (bg bn : Nat), LocG w1 bg K P Q → bg < w1.heap.size → w1.heap[bn]? = some (.cells #[.int .i64 (N : Int)] 3 (0, 0)) → (∀ b, b < w1.heap.size → b ≠ bn + 2 → W.heap[b]? = w1.heap[b]?) → bg = bn + 1 → w1.heap.size ≤ W.heap.size →
      Calls Try.prog 28 #[.int .i64 (D : Int), .int .i64 (D : Int), .func (Fn.func 29) #[] #[.pointer (some ⟨bg, 0, none⟩), .pointer (some ⟨bn, 0, none⟩)]] W fun e w' => MRes e W w' true D D (cellsM D (D * D) (gmD K sa sb))) := by
    intro w1 W bg bn h1 h2 h3 h4 h5 h6
    have hbn : bn < w1.heap.size := (Array.getElem?_eq_some_iff.1 h3).1
    have h := matrixOf_any (D : Int) (D : Int) 29 #[.pointer (some ⟨bg, 0, none⟩), .pointer (some ⟨bn, 0, none⟩)] (gmD K sa sb) (fun _ _ => true) W Try.call29 (by
      intro i j W' hi hj hb
      exact gmCell_any N K P Q sa sb i j bg bn W' hN5 hK1 hK12 hsa hsb hsa5 hsb5 (by omega) (by omega) ((hb.block bg (by omega)).trans ((h4 bg h2 (by omega)).trans h1))
        ⟨by have := hb.size; omega, cell_of_row W' bn 0 _ _ _ ((hb.block bn (by omega)).trans ((h4 bn hbn (by omega)).trans h3))⟩)
    have e : (dimB (D : Int) && dimB (D : Int) && okM (D : Int).toNat ((D : Int).toNat * (D : Int).toNat) (fun _ _ => true)) = true := by rw [hDd]; simp [okM]
    rw [e, Int.toNat_natCast] at h
    exact h
  clear hok hK1 hK12 hsa hsb hsa5 hsb5 eN eL hD hDl hDd
  go_enter Try.func7, Try.ntmps7
  go_wp2_with fail
  refine (implValidGate_any _ _ _ _ _).mono ?_
  rintro e w1 ⟨rfl, b1⟩
  obtain ⟨b1c, b1f⟩ := bcell b1
  have z1 := b1.size
  try simp only [World.size_alloc] at z1
  have B1 : Below w.heap.size w w1 := Below.chain (Below.refl _ _) (by go_grown) b1 (by go_size)
  have y10 : w.heap.size < w1.heap.size := by omega
  have y11 : w.heap.size + 1 < w1.heap.size := by omega
  have y12 : w.heap.size + 2 < w1.heap.size := by omega
  rw [Hok.out]
  have Hn1 := Lib.hid ((b1.block w.heap.size (by go_size)).trans ((Below.heap_alloc _ _ _ (by go_size)).trans ((Below.heap_alloc _ _ _ (by go_size)).trans (heap_top _ _ rfl))))
  have Hg1 : Hid (LocG w1 (w.heap.size + 1) K P Q) := (b1.block (w.heap.size + 1) (by go_size)).trans ((Below.heap_alloc _ _ _ (by go_size)).trans (heap_top _ _ (by simp)))
  have n0 : w1.cell? ⟨w.heap.size, 0, none⟩ = some (.int .i64 (N : Int)) := cell_of_row w1 w.heap.size 0 _ _ _ Hn1.out
  have nR0 : ¬ w.heap.size = w.heap.size + 2 := by omega
  go_wp2_with fail
  have HR : Hid (∀ W : World, (∀ b o, b < w1.heap.size → b ≠ w.heap.size + 2 → W.cell? ⟨b, o, none⟩ = w1.cell? ⟨b, o, none⟩) ∧ w1.grownBy W (some (w.heap.size + 2)) → Calls Try.prog 28 #[.int .i64 (D : Int), .int .i64 (D : Int), .func (Fn.func 29) #[] #[.pointer (some ⟨w.heap.size + 1, 0, none⟩), .pointer (some ⟨w.heap.size, 0, none⟩)]] W fun e w' => MRes e W w' true D D (cellsM D (D * D) (gmD K sa sb))) :=
    fun W hS => HM.out w1 W _ _ Hg1.out y11 Hn1.out (fun b h1 h2 => hS.2.block b h1 (fun e => h2 (Option.some.inj e))) rfl hS.2.size
  have HZ : Hid (w1.heap[w.heap.size + 2]? = some (.cells #[.int .i64 0, .int .i64 0, .slice none 0 0] 26 (0, 0))) := (b1.block (w.heap.size + 2) (by go_size)).trans (heap_top _ _ (by simp))
  have k0 : ∀ o, w1.cell? ⟨w.heap.size + 2, o, none⟩ = _ := fun o => cell_of_row w1 (w.heap.size + 2) o _ _ _ HZ.out
  have f0 : ∀ o, w1.frozen? ⟨w.heap.size + 2, o, none⟩ = false := fun o => frozen_of_row w1 (w.heap.size + 2) o _ _ HZ.out
  clear HM b1 b1c b1f
  go_region_held3 (fun w' => (∀ b o, b < w1.heap.size → b ≠ w.heap.size + 2 → w'.cell? ⟨b, o, none⟩ = w1.cell? ⟨b, o, none⟩) ∧ w1.grownBy w' (some (w.heap.size + 2))) ((refine GB_mk ?_; repeat (first | (with_reducible exact grownBy_refl' _ _) | (with_reducible assumption) | (with_reducible refine only_drew ?_) | (with_reducible refine only_alloc ?_ _) | (with_reducible refine only_setCell ?_ (by first | (left; rfl) | (right; omega) | (right; simp; omega)) _)))) (first | (go_at_call 28; refine (HR.out _ (by with_reducible assumption)).mono ?_; rintro e wR hm; obtain ⟨AR, pR, rR, cR, xR, rfl, hr, hc, hx', hf, bR⟩ := hm.form; have eR := Lib.hid (And.intro hr (And.intro hc hx')); have fR := Lib.hid hf; clear hm hr hc hx' hf; obtain ⟨bRc, bRf⟩ := bcell bR; (try simp only [World.size_drew] at bRc); (try simp only [World.cell?_drew] at bRc); (try simp only [World.size_drew] at bRf); (try simp only [World.frozen?_drew] at bRf); have sR := (GB_step (W := w1) (by with_reducible assumption) bR).2; have zR := sR.size; have yR2 : w.heap.size + 2 < wR.heap.size := (by omega)))
  all_goals
    go_wp2
    refine bodyPost_ret (by simp [results, Try.results7, go_sem, bRc, k0, y12]) rfl (MRes.mk (A := AR) (cap := pR) eR.out.1 eR.out.2.1 eR.out.2.2 ?_ ?_)
    · refine FlatIn.mono (lo := w1.heap.size) (hi := wR.heap.size) ?_ (by omega) (by go_size) (Nat.le_refl _)
      repeat (refine FlatIn.setFar ?_ (by dsimp only; omega) _)
      have h := fR.out
      simp only [World.size_drew] at h
      exact h
    · refine below_only B1 (R := w.heap.size + 2) ?_ (by omega) (by omega)
      exact only_setCell (only_setCell (only_setCell sR (Or.inl rfl) _) (Or.inl rfl) _) (Or.inl rfl) _
end Go.Proofs.Ytlihnipbdckmkaa
