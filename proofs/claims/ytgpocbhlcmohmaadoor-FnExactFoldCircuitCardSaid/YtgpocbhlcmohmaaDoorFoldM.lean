/- FoldCircuit, of the program: slices of slices, folding. -/
import Derived.Test.YtgpocbhlcmohmaaDoorFoldP
import Derived.Test.YtgpocbhlcmohmaaDoorFmtC2
namespace Go.Proofs.YtgpocbhlcmohmaaDoor
open Go.RowKit

theorem Tryd.elemGS : Tryd.prog.elem 57 = 41 := by kernel_rfl
theorem Tryd.sizeG (W : World) : (sizeOf 41).run Tryd.prog W = .ok 3 W := by kernel_rfl
theorem Tryd.undGS : Tryd.prog.underlying 57 = some (.slice (Tryd.prog.elem 57)) := by kernel_rfl
theorem run_sliceG (A : Option Addr) (n cap l h : Nat) (W : World) (h1 : l ≤ h) (h2 : h ≤ cap) :
    (Instr.slice 57 (.slice A n cap) (some (.int .i64 (l : Int))) (some (.int .i64 (h : Int))) none).run Tryd.prog W = .ok (sliced A l h cap 3) W := by
  rw [run_slice_lh W _ A n cap Tryd.undGS .i64 .i64 (l : Int) (h : Int) (by omega) (by omega) (by omega), Tryd.elemGS, Tryd.sizeG]
  simp [Result.andThen]
theorem run_sliceGh (A : Option Addr) (n cap h : Nat) (W : World) (h2 : h ≤ cap) :
    (Instr.slice 57 (.slice A n cap) none (some (.int .i64 (h : Int))) none).run Tryd.prog W = .ok (sliced A 0 h cap 3) W := by
  rw [run_slice_h W _ A n cap Tryd.undGS .i64 (h : Int) (by omega) (by omega), Tryd.elemGS, Tryd.sizeG]
  simp [Result.andThen]
theorem run_sliceGl (A : Option Addr) (n cap l : Nat) (W : World) (h2 : l ≤ n) :
    (Instr.slice 57 (.slice A n cap) (some (.int .i64 (l : Int))) none none).run Tryd.prog W = .ok (sliced A l n cap 3) W := by
  rw [run_slice_l W _ A n cap Tryd.undGS .i64 (l : Int) (by omega) (by omega), Tryd.elemGS, Tryd.sizeG]
  simp [Result.andThen]
/-- a piece of a slice of gates -/
theorem slicedG (A : Option Addr) (cap : Nat) (xs : List G3) (l h : Nat) (h1 : l ≤ h) (h2 : h ≤ xs.length) (h3 : xs.length ≤ cap) :
    ∃ (A' : Option Addr) (cap' : Nat), sliced A l h cap 3 = .slice A' (h - l) cap' ∧ (∀ W, FlatAt W A (flatG xs) → FlatAt W A' (flatG ((xs.drop l).take (h - l)))) ∧ h - l ≤ cap' := by
  refine ⟨_, _, rfl, fun W hW => ?_, by omega⟩
  by_cases hc : cap = l
  · have : h - l = 0 := by omega
    rw [this, List.take_zero]
    exact FlatAt.nil _ _
  · rw [if_neg hc]
    rcases A with _ | ⟨b, off, k⟩
    · rcases xs with _ | ⟨x, xs⟩
      · simpa [flatG] using FlatAt.nil W none
      · obtain ⟨b, off, h, _⟩ := hW 0 x.1 rfl
        cases h
    · by_cases hx : xs = []
      · subst hx
        have e : flatG ((([] : List G3).drop l).take (h - l)) = [] := by simp [flatG]
        rw [e]
        exact FlatAt.nil _ _
      · obtain ⟨x, xs', rfl⟩ := List.exists_cons_of_ne_nil hx
        obtain ⟨b', off', h', _⟩ := hW 0 x.1 rfl
        cases h'
        have e : Option.map (fun a => Addr.add a (l * 3)) (some (⟨b, off, none⟩ : Addr)) = some ⟨b, off + l * 3, none⟩ := by rw [Option.map_some, Lib.add_plain]
        rw [e]
        exact (hW.dropG l).takeG (h - l)

theorem sbelow {W w' : World} (h : (∀ b o, b < W.heap.size → w'.cell? ⟨b, o, none⟩ = W.cell? ⟨b, o, none⟩) ∧ Below W.heap.size W w') : Below W.heap.size W w' := h.2
theorem times_end {xs : List G3} {L n f : Nat} (h : ¬ ((n + 1) * L ≤ xs.length ∧ pieceB xs n L = true)) : timesF xs L f n = n := by
  cases f with
  | zero => rfl
  | succ f => rw [timesF, if_neg h]
theorem times_on {xs : List G3} {L n : Nat} (hn : n < 99) (h : (n + 1) * L ≤ xs.length ∧ pieceB xs n L = true) : timesF xs L (99 - n) n = timesF xs L (99 - (n + 1)) (n + 1) := by
  obtain ⟨f, hf⟩ : ∃ f, 99 - n = f + 1 := ⟨99 - n - 1, by omega⟩
  rw [hf, timesF, if_pos h, show 99 - (n + 1) = f by omega]

set_option maxRecDepth 100000 in
set_option maxHeartbeats 4000000 in
theorem folding_any (A : Option Addr) (cap : Nat) (xs : List G3) (L : Nat) (w : World) (hn : xs.length ≤ 400) (hL : 1 ≤ L) (hL2 : L ≤ xs.length) (hcap : xs.length ≤ cap) (hx : Hid (FlatAt w A (flatG xs))) :
    Calls Tryd.prog 68 #[.slice A xs.length cap, .int .i64 (L : Int)] w fun e w' => e = .returned (.int .i64 (times xs L : Int)) ∧ Below w.heap.size w w' := by
  go_enter Tryd.func68, Tryd.ntmps68
  go_wp2_with fail
  go_loopw [5] (fun s wr => ∃ n : Nat, s = .int .i64 n ∧ 1 ≤ n ∧ n ≤ 99 ∧ n * L ≤ xs.length ∧ timesF xs L (99 - n) n = times xs L ∧ Below w.heap.size w wr) (fun s _ => 99 - (intOf s).toNat)
  case atStart => exact ⟨1, rfl, Nat.le_refl _, by omega, by omega, rfl, Below.refl _ _⟩
  case round =>
    obtain ⟨n, rfl, h1, h99, hnl, ht, hb⟩ := hrel
    have zb := hb.size
    obtain ⟨N, hN⟩ : ∃ N, N = n + 1 := ⟨_, rfl⟩
    obtain ⟨m, hm⟩ : ∃ m, m = N * L := ⟨_, rfl⟩
    obtain ⟨p, hp⟩ : ∃ p, p = n * L := ⟨_, rfl⟩
    have hmp : m = p + L := by rw [hm, hN, hp, Nat.succ_mul]
    have ww1 : IntKind.wrap .i64 ((n : Int) + 1) = (N : Int) := by rw [show (n : Int) + 1 = (N : Int) by omega]; exact IntWalk.i64_in _ (by omega)
    have ww2 : IntKind.wrap .i64 ((N : Int) * (L : Int)) = (m : Int) := by rw [show (N : Int) * (L : Int) = (m : Int) by rw [hm]; simp]; exact IntWalk.i64_in _ (by omega)
    have ww3 : IntKind.wrap .i64 ((n : Int) * (L : Int)) = (p : Int) := by rw [show (n : Int) * (L : Int) = (p : Int) by rw [hp]; simp]; exact IntWalk.i64_in _ (by omega)
    have Ht := Lib.hid ht
    have HN := Lib.hid hN
    clear ht
    by_cases hc1 : m ≤ xs.length
    · have hd1 : decide ((m : Int) ≤ (xs.length : Int)) = true := decide_eq_true (by omega)
      have Hm : Hid ((n + 1) * L ≤ xs.length) := by show _ ≤ _; rw [← hN, ← hm]; exact hc1
      by_cases hc2 : n < 99
      · have hd2 : decide ((n : Int) < 99) = true := decide_eq_true (by omega)
        obtain ⟨A1, cap1, e1, f1, _⟩ := slicedG A cap xs 0 L (by omega) (by omega) hcap
        obtain ⟨A2, cap2, e2, f2, _⟩ := slicedG A cap xs p m (by omega) (by omega) hcap
        have hs1 := fun W => run_sliceGh A xs.length cap L W (by omega)
        have hs2 := fun W => run_sliceG A xs.length cap p m W (by omega) (by omega)
        rw [e1, Nat.sub_zero] at hs1
        rw [e2, show m - p = L by omega] at hs2
        have HE : Hid (∀ W, ((∀ b o, b < wr.heap.size → W.cell? ⟨b, o, none⟩ = wr.cell? ⟨b, o, none⟩) ∧ Below wr.heap.size wr W) → Calls Tryd.prog 89 #[.slice A1 L cap1, .slice A2 L cap2] W fun e w' => e = .returned (.bool (pieceB xs n L)) ∧ Below W.heap.size W w') := fun W hW => by
          have hWx : FlatAt W A (flatG xs) := hx.out.below (hb.trans (hW.2.mono hb.size))
          have l1 : (xs.take L).length = L := by rw [List.length_take]; omega
          have l2 : ((xs.drop p).take L).length = L := by rw [List.length_take, List.length_drop]; omega
          have g1 := f1 W hWx
          have g2 := f2 W hWx
          rw [List.drop_zero, Nat.sub_zero] at g1
          rw [show m - p = L by omega] at g2
          have h := equalG_any A1 A2 cap1 cap2 (xs.take L) ((xs.drop p).take L) W (by omega) g1 g2
          rw [l1, l2, hp] at h
          exact h
        have He : Hid (pieceB xs n L = true → timesF xs L (99 - (n + 1)) (n + 1) = times xs L) := fun h => by rw [← times_on hc2 ⟨by rw [← hN, ← hm]; exact hc1, h⟩, Ht.out]
        have He2 : Hid (pieceB xs n L = false → n = times xs L) := fun h => by rw [← Ht.out, times_end (by rw [h]; simp)]
        clear e1 e2 f1 f2
        have hpm : (p : Int) ≤ (m : Int) := by omega
        have hmc : (m : Int) ≤ (cap : Int) := by omega
        have hLc : (L : Int) ≤ (cap : Int) := by omega
        clear hN hm hp hmp hnl
        go_wp2_with fail
        go_region_held3 (fun w' => (∀ b o, b < wr.heap.size → w'.cell? ⟨b, o, none⟩ = wr.cell? ⟨b, o, none⟩) ∧ Below wr.heap.size wr w') ((refine SB_mk ?_; go_grown)) (first | (go_at_call 89; with_reducible refine (HE.out _ (by with_reducible assumption)).mono ?_; rintro e wA ⟨rfl, bA⟩; obtain ⟨bAc, bAf⟩ := bcell bA; (try with_reducible have yA := lt_size bA); (try with_reducible have yA := lt_sizeD bA); (try with_reducible have yB := Nat.lt_of_lt_of_le (by assumption) bA.size); have sA := (SB_step (W := wr) (by with_reducible assumption) bA).2; have zA := sA.size))
        all_goals
          rcases hpc : pieceB xs n L with _ | _
          · go_wp2
            go_ret
            rw [← He2.out hpc]
            exact ⟨rfl, hb.trans (sA.mono hb.size)⟩
          · go_wp2
            go_roundw
            case rel => have hN' := HN.out; exact ⟨N, rfl, by omega, by omega, by rw [hN']; exact Hm.out, by rw [hN']; exact He.out hpc, hb.trans (sA.mono hb.size)⟩
            case measure => have hN' := HN.out; simp [intOf]; omega
      · have hd2 : decide ((n : Int) < 99) = false := decide_eq_false (by omega)
        have He2 : Hid (n = times xs L) := by show _ = _; rw [← Ht.out, show 99 - n = 0 by omega]; rfl
        clear hN hm hp hmp hnl
        go_wp2_with fail
        go_quiet (fail)
        go_wp2
        go_ret
        rw [← He2.out]
        exact ⟨rfl, Below.drewNG hb nq⟩
    · have hd1 : decide ((m : Int) ≤ (xs.length : Int)) = false := decide_eq_false (by omega)
      have He2 : Hid (n = times xs L) := by show _ = _; rw [← Ht.out, times_end (by rw [← hN, ← hm]; exact fun h => hc1 h.1)]
      clear hN hm hp hmp hnl
      go_wp2_with fail
      go_quiet (fail)
      go_wp2
      go_ret
      rw [← He2.out]
      exact ⟨rfl, Below.drewNG hb nq⟩
end Go.Proofs.YtgpocbhlcmohmaaDoor
