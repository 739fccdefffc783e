/- Concat of the reference: the whole. -/
import Derived.Test.YtlihnipbdckmkaaCatS
import Derived.Test.YtlihnipbdckmkaaCountC
import Derived.Test.YtlihnipbdckmkaaOwnB
namespace Go.Proofs.Ytlihnipbdckmkaa
open Go.RowKit

def catOk (q : Int) (xs : List G3) (q' : Int) (ys : List G3) : Bool := cOk q xs && cOk q' ys && (q == q') && decide (xs.length + ys.length ≤ 400)

set_option maxRecDepth 100000 in
set_option maxHeartbeats 8000000 in
theorem specCat_any (q : Int) (A : Option Addr) (cap : Nat) (xs : List G3) (q' : Int) (A2 : Option Addr) (cap2 : Nat) (ys : List G3) (w : World) (hn : xs.length ≤ 1048576) (hn2 : ys.length ≤ 1048576) (hx : Hid (FlatAt w A (flatG xs))) (hy : Hid (FlatAt w A2 (flatG ys))) :
    Calls Try.prog 14 #[cv q A xs.length cap, cv q' A2 ys.length cap2] w fun e w' => CRes e w w' (catOk q xs q' ys) q (xs ++ ys) := by
  rcases hok : cOk q xs with _ | _
  · have Hno : Hid (catOk q xs q' ys = false) := by show catOk _ _ _ _ = false; simp [catOk, hok]
    go_enter Try.func14, Try.ntmps14
    go_wp2_with fail
    refine (l4Good_any q A cap xs _ (by omega) (((hx.out.alloc _).alloc _).alloc _)).mono ?_
    rintro e w1 ⟨rfl, b1⟩
    obtain ⟨b1c, b1f⟩ := bcell b1
    have z1 := b1.size
    try simp only [World.size_alloc] at z1
    have B1 : Below w.heap.size w w1 := Below.chain (Below.refl _ _) (by go_grown) b1 (by go_size)
    have y10 : w.heap.size < w1.heap.size := by omega
    have y11 : w.heap.size + 1 < w1.heap.size := by omega
    have y12 : w.heap.size + 2 < w1.heap.size := by omega
    rw [hok]
    go_wp2
    refine bodyPost_ret (by simp [results, Try.results14, go_sem, b1c]) rfl (CRes.no Hno.out ?_)
    go_grown
  rcases hok2 : cOk q' ys with _ | _
  · have Hno : Hid (catOk q xs q' ys = false) := by show catOk _ _ _ _ = false; simp [catOk, hok2]
    go_enter Try.func14, Try.ntmps14
    go_wp2_with fail
    refine (l4Good_any q A cap xs _ (by omega) (((hx.out.alloc _).alloc _).alloc _)).mono ?_
    rintro e w1 ⟨rfl, b1⟩
    obtain ⟨b1c, b1f⟩ := bcell b1
    have z1 := b1.size
    try simp only [World.size_alloc] at z1
    have B1 : Below w.heap.size w w1 := Below.chain (Below.refl _ _) (by go_grown) b1 (by go_size)
    have y10 : w.heap.size < w1.heap.size := by omega
    have y11 : w.heap.size + 1 < w1.heap.size := by omega
    have y12 : w.heap.size + 2 < w1.heap.size := by omega
    rw [hok]
    go_wp2_with fail
    refine (l4Good_any q' A2 cap2 ys _ (by omega) (by refine hy.out.below B1)).mono ?_
    rintro e w2 ⟨rfl, b2⟩
    have z2 := b2.size
    try simp only [World.size_alloc] at z2
    have C2 := Below.chain b1 (by go_grown) b2 (by go_size)
    have B2 : Below w.heap.size w w2 := Below.chain B1 (by go_grown) b2 (by go_size)
    obtain ⟨b2c, b2f⟩ := bcell b2
    obtain ⟨C2c, C2f⟩ := bcellB C2
    have y20 : w.heap.size < w2.heap.size := by omega
    have y21 : w.heap.size + 1 < w2.heap.size := by omega
    have y22 : w.heap.size + 2 < w2.heap.size := by omega
    try (have v21 : w1.heap.size < w2.heap.size := by omega)
    rw [hok2]
    go_wp2
    refine bodyPost_ret (by simp [results, Try.results14, go_sem, C2c]) rfl (CRes.no Hno.out ?_)
    go_grown
  have Hl1 := Lib.hid (cOk_len hok)
  have Hl2 := Lib.hid (cOk_len hok2)
  have Hok := Lib.hid hok
  have Hok2 := Lib.hid hok2
  clear hok hok2
  by_cases hq : q = q'
  · subst hq
    obtain ⟨N, hN⟩ : ∃ N, N = xs.length + ys.length := ⟨_, rfl⟩
    have HN := Lib.hid hN
    have hNi : (xs.length : Int) + (ys.length : Int) = (N : Int) := by omega
    have hNb : N ≤ 1000 := by have := Hl1.out; have := Hl2.out; omega
    obtain ⟨w0, w0'⟩ : IntKind.wrap .i64 (N : Int) = (N : Int) ∧ RowKit.wrap64 (N : Int) = (N : Int) := ⟨IntWalk.i64_in _ (by omega), IntWalk.wrap64_in _ (by omega)⟩
    clear hN hNb
    by_cases hl : N ≤ 400
    · have Hyes : Hid (catOk q xs q ys = true) := by show catOk _ _ _ _ = true; simp [catOk, Hok.out, Hok2.out]; rw [← HN.out]; exact hl
      have hg : decide ((400 : Int) < (N : Int)) = false := by simp; omega
      have Hnl := Lib.hid hl
      obtain ⟨i0, hi, hz0, hz1, hz2⟩ := info_parts Try.infoGate
      clear hl
      go_enter Try.func14, Try.ntmps14
      go_wp2_with fail
      refine (l4Good_any q A cap xs _ (by omega) (((hx.out.alloc _).alloc _).alloc _)).mono ?_
      rintro e w1 ⟨rfl, b1⟩
      obtain ⟨b1c, b1f⟩ := bcell b1
      have z1 := b1.size
      try simp only [World.size_alloc] at z1
      have B1 : Below w.heap.size w w1 := Below.chain (Below.refl _ _) (by go_grown) b1 (by go_size)
      have y10 : w.heap.size < w1.heap.size := by omega
      have y11 : w.heap.size + 1 < w1.heap.size := by omega
      have y12 : w.heap.size + 2 < w1.heap.size := by omega
      rw [Hok.out]
      go_wp2_with fail
      refine (l4Good_any q A2 cap2 ys _ (by omega) (by refine hy.out.below B1)).mono ?_
      rintro e w2 ⟨rfl, b2⟩
      have z2 := b2.size
      try simp only [World.size_alloc] at z2
      have C2 := Below.chain b1 (by go_grown) b2 (by go_size)
      have B2 : Below w.heap.size w w2 := Below.chain B1 (by go_grown) b2 (by go_size)
      obtain ⟨b2c, b2f⟩ := bcell b2
      obtain ⟨C2c, C2f⟩ := bcellB C2
      have y20 : w.heap.size < w2.heap.size := by omega
      have y21 : w.heap.size + 1 < w2.heap.size := by omega
      have y22 : w.heap.size + 2 < w2.heap.size := by omega
      try (have v21 : w1.heap.size < w2.heap.size := by omega)
      rw [Hok2.out]
      go_wp2_with fail
      refine (l4Own_any q A cap xs _ hn (by refine hx.out.below B2)).mono ?_
      rintro e w3 ⟨A', cap', rfl, hown, b3, o32⟩
      have Hown := Lib.hid hown
      have z3 := b3.size
      have C3 := Below.chain C2 (by go_grown) b3 (by go_size)
      have B3 : Below w.heap.size w w3 := B2.trans (b3.mono B2.size)
      obtain ⟨C3c, C3f⟩ := bcellB C3
      have y30 : w.heap.size < w3.heap.size := by omega
      have y31 : w.heap.size + 1 < w3.heap.size := by omega
      have y32 : w.heap.size + 1 + 1 < w3.heap.size := by omega
      clear hown b3
      go_wp2_with (at_builtin; refine wpList_append_flat _ rfl _ _ 36 rfl (w2.heap.size + 2) 29 i0 (tv 0 0 0) 3 24 Try.underlying36 hi hz0 hz1 hz2 rfl (by decide) (.slice A' xs.length cap') xs.length ((flatG xs).map (Value.int .i64)) rfl (Hown.out.alloc _) A2 ys.length cap2 (flatG ys) rfl (flatG_len ys) ((hy.out.below B3).alloc _) ?c3 ?c4 ?c5 ?_)
      case c3 => have := Hl1.out; have := Hl2.out; unfold maxLen; omega
      case c4 => have := Hl1.out; have := Hl2.out; omega
      case c5 => simp; omega
      intro v' w4 hown' hgrow
      obtain ⟨A4, cap4, rfl⟩ := ownsRow_form _ hown'
      have hrow : ∀ kk, (Value.slice A' xs.length cap').ownBlock = some kk → w2.heap.size + 2 ≤ kk ∧ kk < w3.heap.size := fun kk hk => Hown.out.lt kk hk
      have hb4 := Lib.hid ((hgrow.block w3.heap.size (by simp) (fun e => by have := (hrow _ e.symm).2; omega)).trans (heap_top w3 (.cells #[.int .i64 q, .slice A' xs.length cap'] 38) rfl))
      have k0 := cell_of_row w4 w3.heap.size 0 _ _ _ hb4.out
      have k1 := cell_of_row w4 w3.heap.size 1 _ _ _ hb4.out
      have kf := fun o => frozen_of_row w4 w3.heap.size o _ _ hb4.out
      have B4 : Below w.heap.size w w4 := Below.grown (by go_grown) hgrow (by simp; omega) (fun kk hk => by have := (hrow kk hk).1; omega)
      have s4 := hgrow.size
      simp only [World.size_alloc] at s4
      have c4 : ∀ b o, b < w2.heap.size → w4.cell? ⟨b, o, none⟩ = w3.cell? ⟨b, o, none⟩ := fun b o hbo => (World.cell?_of_block (a := ⟨b, o, none⟩) (hgrow.block b (by simp; omega) (fun e => by have := (hrow _ e.symm).1; omega))).trans (World.cell?_of_block (a := ⟨b, o, none⟩) (Below.heap_alloc _ _ _ (by show b < w3.heap.size; omega)))
      have f4 : ∀ b o, b < w2.heap.size → w4.frozen? ⟨b, o, none⟩ = w3.frozen? ⟨b, o, none⟩ := fun b o hbo => (World.frozen?_of_block (a := ⟨b, o, none⟩) (hgrow.block b (by simp; omega) (fun e => by have := (hrow _ e.symm).1; omega))).trans (World.frozen?_of_block (a := ⟨b, o, none⟩) (Below.heap_alloc _ _ _ (by show b < w3.heap.size; omega)))
      have yy2 : w.heap.size + 1 + 1 < w2.heap.size := by omega
      have yy4 : w.heap.size + 1 + 1 < w4.heap.size := by omega
      have Hf := Lib.hid (show w4.ownsRow (w2.heap.size + 2) 29 3 (.slice A4 (xs.length + ys.length) cap4) (xs.length + ys.length) ((flatG (xs ++ ys)).map (Value.int .i64)) from by rw [flatG_append, List.map_append]; exact hown')
      clear hown' hgrow hrow
      obtain ⟨M, hM⟩ : ∃ M, M = xs.length + ys.length := ⟨_, rfl⟩
      have HM := Lib.hid hM
      rw [← hM] at Hf ⊢
      clear hM
      go_wp2
      refine bodyPost_ret (by simp [results, Try.results14, go_sem, c4, C3c, yy2]; exact ⟨HM.out, Hyes.out⟩) rfl (CRes.mk (q' := q) (ys := xs ++ ys) (A := A4) (cap := cap4) (by rw [Hyes.out]; rfl) (by rw [Hyes.out]; rfl) ?_ ?_)
      · refine FlatIn.mono (lo := w2.heap.size + 2) (hi := w4.heap.size) ?_ (by omega) (by go_size) (Nat.le_refl _)
        repeat (refine FlatIn.setFar ?_ (by dsimp only; omega) _)
        exact FlatIn.of_owns (by have h := Hf.out; rw [HM.out] at h; rw [← List.length_append] at h; exact owns_set (p := ⟨w3.heap.size, 1, none⟩) h (owns_ne h hb4.out (by decide)) _) (by simp [World.setCell])
      · go_grown
    · have Hno : Hid (catOk q xs q ys = false) := by show catOk _ _ _ _ = false; simp [catOk]; intro _ _; rw [← HN.out]; omega
      have hg : decide ((400 : Int) < (N : Int)) = true := by simp; omega
      clear hl
      go_enter Try.func14, Try.ntmps14
      go_wp2_with fail
      refine (l4Good_any q A cap xs _ (by omega) (((hx.out.alloc _).alloc _).alloc _)).mono ?_
      rintro e w1 ⟨rfl, b1⟩
      obtain ⟨b1c, b1f⟩ := bcell b1
      have z1 := b1.size
      try simp only [World.size_alloc] at z1
      have B1 : Below w.heap.size w w1 := Below.chain (Below.refl _ _) (by go_grown) b1 (by go_size)
      have y10 : w.heap.size < w1.heap.size := by omega
      have y11 : w.heap.size + 1 < w1.heap.size := by omega
      have y12 : w.heap.size + 2 < w1.heap.size := by omega
      rw [Hok.out]
      go_wp2_with fail
      refine (l4Good_any q A2 cap2 ys _ (by omega) (by refine hy.out.below B1)).mono ?_
      rintro e w2 ⟨rfl, b2⟩
      have z2 := b2.size
      try simp only [World.size_alloc] at z2
      have C2 := Below.chain b1 (by go_grown) b2 (by go_size)
      have B2 : Below w.heap.size w w2 := Below.chain B1 (by go_grown) b2 (by go_size)
      obtain ⟨b2c, b2f⟩ := bcell b2
      obtain ⟨C2c, C2f⟩ := bcellB C2
      have y20 : w.heap.size < w2.heap.size := by omega
      have y21 : w.heap.size + 1 < w2.heap.size := by omega
      have y22 : w.heap.size + 2 < w2.heap.size := by omega
      try (have v21 : w1.heap.size < w2.heap.size := by omega)
      rw [Hok2.out]
      go_wp2
      refine bodyPost_ret (by simp [results, Try.results14, go_sem, C2c]) rfl (CRes.no Hno.out ?_)
      go_grown
  · have Hno : Hid (catOk q xs q' ys = false) := by show catOk _ _ _ _ = false; simp [catOk, hq]
    have fq : (q == q') = false := by simpa using hq
    have fq' : (q != q') = true := by simpa using hq
    clear hq
    go_enter Try.func14, Try.ntmps14
    go_wp2_with fail
    refine (l4Good_any q A cap xs _ (by omega) (((hx.out.alloc _).alloc _).alloc _)).mono ?_
    rintro e w1 ⟨rfl, b1⟩
    obtain ⟨b1c, b1f⟩ := bcell b1
    have z1 := b1.size
    try simp only [World.size_alloc] at z1
    have B1 : Below w.heap.size w w1 := Below.chain (Below.refl _ _) (by go_grown) b1 (by go_size)
    have y10 : w.heap.size < w1.heap.size := by omega
    have y11 : w.heap.size + 1 < w1.heap.size := by omega
    have y12 : w.heap.size + 2 < w1.heap.size := by omega
    rw [Hok.out]
    go_wp2_with fail
    refine (l4Good_any q' A2 cap2 ys _ (by omega) (by refine hy.out.below B1)).mono ?_
    rintro e w2 ⟨rfl, b2⟩
    have z2 := b2.size
    try simp only [World.size_alloc] at z2
    have C2 := Below.chain b1 (by go_grown) b2 (by go_size)
    have B2 : Below w.heap.size w w2 := Below.chain B1 (by go_grown) b2 (by go_size)
    obtain ⟨b2c, b2f⟩ := bcell b2
    obtain ⟨C2c, C2f⟩ := bcellB C2
    have y20 : w.heap.size < w2.heap.size := by omega
    have y21 : w.heap.size + 1 < w2.heap.size := by omega
    have y22 : w.heap.size + 2 < w2.heap.size := by omega
    try (have v21 : w1.heap.size < w2.heap.size := by omega)
    rw [Hok2.out]
    go_wp2
    refine bodyPost_ret (by simp [results, Try.results14, go_sem, C2c]) rfl (CRes.no Hno.out ?_)
    go_grown
end Go.Proofs.Ytlihnipbdckmkaa
