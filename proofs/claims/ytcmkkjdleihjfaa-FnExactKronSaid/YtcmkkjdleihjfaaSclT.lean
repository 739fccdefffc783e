/- ScaleMatrix of the reference: the walk. -/
import Derived.Test.YtcmkkjdleihjfaaSclS
import Derived.Test.YtcmkkjdleihjfaaKeepC
import Derived.Deep.RegionLaw
namespace Go.Proofs.Ytcmkkjdleihjfaa
open Go.RowKit

/-- the products of the first k elements, and whether all of them are there -/
def sclTk (xs : List D5) (y : D5) (k : Nat) : List D5 := (xs.take k).map fun z => mulC z y
def okTk (xs : List D5) (y : D5) (k : Nat) : Bool := (xs.take k).all fun z => mulOk z y
theorem mul_take {xs : List D5} {y x : D5} {k : Nat} (h : xs[k]? = some x) : okTk xs y (k + 1) = (okTk xs y k && mulOk x y) ∧ sclTk xs y (k + 1) = sclTk xs y k ++ [mulC x y] := by
  obtain ⟨hk, rfl⟩ := List.getElem?_eq_some_iff.1 h
  unfold okTk sclTk
  rw [List.take_succ_eq_append_getElem hk, List.all_append, List.map_append]
  simp
theorem sclTk_len (xs : List D5) (y : D5) (k : Nat) : (sclTk xs y k).length ≤ xs.length := by
  unfold sclTk
  rw [List.length_map, List.length_take]
  omega

set_option maxHeartbeats 1000000 in
theorem l2cMatrix_t (g : Nat) (r c : Int) (A : Option Addr) (n cap : Nat) (w : World) (hc : Hid (Cur w g false)) :
    Calls Try.prog 97 #[.pointer (some ⟨g, 0, none⟩), mv r c A n cap] w fun e w' => e = .returned (.tuple #[mv r c A n cap, .bool true]) ∧ Below w.heap.size w w' := by
  have hlt := hc.out.lt
  have k0 := hc.out.cell
  go_enter Try.func97, Try.ntmps97
  go_wp2
  refine bodyPost_ret (by simp [results, Try.results97, go_sem]) rfl ⟨rfl, ?_⟩
  go_grown

set_option maxHeartbeats 1000000 in
theorem l2cMatrix_f (g : Nat) (r c : Int) (A : Option Addr) (n cap : Nat) (w : World) (hc : Hid (Cur w g true)) :
    Calls Try.prog 97 #[.pointer (some ⟨g, 0, none⟩), mv r c A n cap] w fun e w' => e = .returned (.tuple #[mv 0 0 none 0 0, .bool false]) ∧ Below w.heap.size w w' := by
  have hlt := hc.out.lt
  have k0 := hc.out.cell
  go_enter Try.func97, Try.ntmps97
  go_wp2
  refine bodyPost_ret (by simp [results, Try.results97, go_sem]) rfl ⟨rfl, ?_⟩
  go_grown

set_option maxRecDepth 100000 in
set_option maxHeartbeats 8000000 in
theorem specScale_any (r c : Int) (A : Option Addr) (cap : Nat) (xs : List D5) (y : D5) (w : World) (hx : Hid (FlatAt w A (flatD xs))) :
    Calls Try.prog 48 #[mv r c A xs.length cap, dvD y] w fun e w' => MRes e w w' (sclAll r c xs y) r c (sclL r.toNat c.toNat xs y) := by
  rcases hok : mOk r c xs with _ | _
  · have Hno : Hid (sclAll r c xs y = false) := by show sclAll r c xs y = false; simp [sclAll, hok]
    go_enter Try.func48, Try.ntmps48
    go_wp2_with fail
    refine (l3Good_any r c A cap xs _ (((hx.out.alloc _).alloc _).alloc _)).mono ?_
    rintro e w1 ⟨rfl, b1⟩
    obtain ⟨b1c, b1f⟩ := bcell b1
    have z1 := b1.size
    try simp only [World.size_alloc] at z1
    have B1 : Below w.heap.size w w1 := Below.chain (Below.refl _ _) (by go_grown) b1 (by go_size)
    have y10 : w.heap.size < w1.heap.size := by omega
    have y11 : w.heap.size + 1 < w1.heap.size := by omega
    have y12 : w.heap.size + 2 < w1.heap.size := by omega
    rw [hok]
    go_wp2
    refine bodyPost_ret (by simp [results, Try.results48, go_sem, b1c]) rfl (MRes.no Hno.out ?_)
    go_grown
  obtain ⟨R, C, rfl, rfl, hR1, hR, hC1, hC, hdr, hdc, hlen, hall⟩ := dims hok
  have Hlen := Lib.hid hlen
  have Hok := Lib.hid hok
  have Hall := Lib.hid hall
  clear hlen hall hok hdr hdc
  rcases hy : dOkD y with _ | _
  · have Hno : Hid (sclAll R C xs y = false) := by show sclAll R C xs y = false; simp [sclAll, hy]
    go_enter Try.func48, Try.ntmps48
    go_wp2_with fail
    refine (l3Good_any R C A cap xs _ (((hx.out.alloc _).alloc _).alloc _)).mono ?_
    rintro e w1 ⟨rfl, b1⟩
    obtain ⟨b1c, b1f⟩ := bcell b1
    have z1 := b1.size
    try simp only [World.size_alloc] at z1
    have B1 : Below w.heap.size w w1 := Below.chain (Below.refl _ _) (by go_grown) b1 (by go_size)
    have y10 : w.heap.size < w1.heap.size := by omega
    have y11 : w.heap.size + 1 < w1.heap.size := by omega
    have y12 : w.heap.size + 2 < w1.heap.size := by omega
    rw [Hok.out]
    go_wp2_with fail
    refine (l2GoodD_any y _).mono ?_
    rintro e w2 ⟨rfl, b2⟩
    have z2 := b2.size
    try simp only [World.size_alloc] at z2
    have C2 := Below.chain b1 (by go_grown) b2 (by go_size)
    have B2 : Below w.heap.size w w2 := Below.chain B1 (by go_grown) b2 (by go_size)
    obtain ⟨b2c, b2f⟩ := bcell b2
    obtain ⟨C2c, C2f⟩ := bcellB C2
    have y20 : w.heap.size < w2.heap.size := by omega
    have y21 : w.heap.size + 1 < w2.heap.size := by omega
    have y22 : w.heap.size + 2 < w2.heap.size := by omega
    try (have v21 : w1.heap.size < w2.heap.size := by omega)
    rw [hy]
    go_wp2
    refine bodyPost_ret (by simp [results, Try.results48, go_sem, C2c]) rfl (MRes.no Hno.out ?_)
    go_grown
  have Hy := Lib.hid hy
  clear hy
  go_enter Try.func48, Try.ntmps48
  go_wp2_with fail
  refine (l3Good_any R C A cap xs _ (((hx.out.alloc _).alloc _).alloc _)).mono ?_
  rintro e w1 ⟨rfl, b1⟩
  obtain ⟨b1c, b1f⟩ := bcell b1
  have z1 := b1.size
  try simp only [World.size_alloc] at z1
  have B1 : Below w.heap.size w w1 := Below.chain (Below.refl _ _) (by go_grown) b1 (by go_size)
  have y10 : w.heap.size < w1.heap.size := by omega
  have y11 : w.heap.size + 1 < w1.heap.size := by omega
  have y12 : w.heap.size + 2 < w1.heap.size := by omega
  rw [Hok.out]
  have L1 : Hid (LocM w1 w.heap.size R C A xs.length cap) := LocM.below (LocM.of_row ((Below.heap_alloc _ _ _ (by go_size)).trans ((Below.heap_alloc _ _ _ (by go_size)).trans (heap_top _ _ rfl)))) b1 (by go_size)
  have K1 : Hid (LocD w1 (w.heap.size + 1) y) := LocD.below (LocD.of_row ((Below.heap_alloc _ _ _ (by go_size)).trans (heap_top _ _ (by simp)))) b1 (by go_size)
  have Z1 : Hid (Zero3 w1 (w.heap.size + 2)) := (b1.block _ (by go_size)).trans (heap_top _ _ (by simp))
  go_wp2_with fail
  refine (l2GoodD_any y _).mono ?_
  rintro e w2 ⟨rfl, b2⟩
  have z2 := b2.size
  try simp only [World.size_alloc] at z2
  have C2 := Below.chain b1 (by go_grown) b2 (by go_size)
  have B2 : Below w.heap.size w w2 := Below.chain B1 (by go_grown) b2 (by go_size)
  obtain ⟨b2c, b2f⟩ := bcell b2
  obtain ⟨C2c, C2f⟩ := bcellB C2
  have y20 : w.heap.size < w2.heap.size := by omega
  have y21 : w.heap.size + 1 < w2.heap.size := by omega
  have y22 : w.heap.size + 2 < w2.heap.size := by omega
  try (have v21 : w1.heap.size < w2.heap.size := by omega)
  rw [Hy.out]
  have L2 := Lib.hid (L1.out.call b2)
  have K2 := Lib.hid (K1.out.call b2)
  have Z2 : Hid (Zero3 w2 (w.heap.size + 2)) := (b2.block _ (by omega)).trans Z1.out
  obtain ⟨i0, hi, hz0, hz1, hz2⟩ := info_parts Try.infoDyadic
  obtain ⟨_, l0, l1, l2⟩ := L2.out
  have zz2 : w.heap.size + 2 < w2.heap.size := (Array.getElem?_eq_some_iff.1 Z2.out).1
  go_wp2_with fail
  generalize hW3 : (w2.alloc (.cells #[.bool false] 112)).alloc (.cells #[.int .i64 (R : Int), .int .i64 (C : Int), .slice none 0 0] 67) = W3
  have b3 : Below w2.heap.size w2 W3 := by rw [← hW3]; go_grown
  have B3 := B2.trans (b3.mono B2.size)
  have HM : Hid (Made W3 (w2.heap.size + 1) (w2.heap.size + 1 + 1) R C []) := by
    rw [← hW3]
    exact ⟨none, 0, heap_top _ _ (by simp), World.ownsRow_nil _ _ _ _⟩
  have HC : Hid (Cur W3 w2.heap.size false) := by rw [← hW3]; exact (Cur.new w2 _ false).alloc _
  have HZ : Hid (Zero3 W3 (w.heap.size + 2)) := (b3.block _ zz2).trans Z2.out
  have HX : Hid (LocD W3 (w.heap.size + 1) y) := K2.out.call b3
  have zy : w.heap.size + 1 < w2.heap.size := K2.out.1
  obtain ⟨G, hG⟩ : ∃ G, w2.heap.size = G := ⟨_, rfl⟩
  rw [hG] at HM HC zz2 zy ⊢
  clear hG hW3 b3 C2c C2f b2c b2f b1c b1f C2 b2 b1 l0 l1 l2 L1 L2 K1 K2 Z1 Z2 y10 y11 y12 z1
  have hxlen : xs.length ≤ 1024 := by
    have h1 := Nat.mul_le_mul hR hC
    have h3 := Hlen.out
    omega
  go_loopg [29] xs.length (fun gk s wr => ∃ k : Nat, s = .int .i64 k ∧ k + gk = xs.length ∧ Made wr (G + 1) (G + 1 + 1) R C (sclTk xs y k) ∧ Cur wr G (!okTk xs y k) ∧ Zero3 wr (w.heap.size + 2) ∧ LocD wr (w.heap.size + 1) y ∧ Below w.heap.size w wr)
  case atStart => exact ⟨0, rfl, by omega, HM.out, HC.out, HZ.out, HX.out, B3⟩
  case round =>
    obtain ⟨k, rfl, hkg, hm, hc, hz, hxl, hb⟩ := hrel
    have zb := hb.size
    obtain ⟨A', cap', hb2, hown⟩ := hm
    have zb2 : G + 1 < wr.heap.size := (Array.getElem?_eq_some_iff.1 hb2).1
    have zz0 : w.heap.size + 2 < wr.heap.size := by omega
    have Hc := Lib.hid hc
    have Hz := Lib.hid hz
    have Hxl := Lib.hid hxl
    have Hb2 := Lib.hid hb2
    have Hown := Lib.hid hown
    clear hc hz hxl hb2 hown
    by_cases hlt : k < xs.length
    · obtain ⟨x, hkx⟩ : ∃ x, xs[k]? = some x := ⟨_, List.getElem?_eq_getElem hlt⟩
      have Hst := Lib.hid (mul_take (y := y) hkx)
      have hxd : Hid (dOkD x = true) := List.all_eq_true.1 Hall.out x (List.mem_of_getElem? hkx)
      obtain ⟨b, off, rfl, hbl, hcx⟩ := hx.out.five hkx
      obtain ⟨c0, c1, c2, c3, c4⟩ := hcx.below hb hbl
      clear hcx hkx
      go_wp2_with fail
      generalize hWy : wr.alloc (.cells #[.int .i64 x.1.1, .int .i64 x.1.2.1, .int .i64 x.1.2.2.1, .int .i64 x.1.2.2.2, .int .i64 x.2] 52) = wy
      have by_ : Below wr.heap.size wr wy := by rw [← hWy]; go_grown
      have zy1 : wr.heap.size < wy.heap.size := by rw [← hWy]; go_size
      have By := hb.trans (by_.mono zb)
      have HY : Hid (LocD wy wr.heap.size x) := by rw [← hWy]; exact LocD.of_row (heap_top _ _ rfl)
      have HX' := Lib.hid (Hxl.out.call by_)
      have Hz' := Lib.hid ((by_.block (w.heap.size + 2) zz0).trans Hz.out)
      have Hb' := Lib.hid ((by_.block (G + 1) zb2).trans Hb2.out)
      have Hown' := Lib.hid (owns_below Hown.out by_)
      have Hc' := Lib.hid (Hc.out.below by_ Hc.out.lt)
      have hlen : (sclTk xs y k).length ≤ 1024 := by
        have h1 := Nat.mul_le_mul hR hC
        have h2 := sclTk_len xs y k
        have h3 := Hlen.out
        omega
      have Hrow : Hid (∀ kk, (Value.slice A' (sclTk xs y k).length cap').ownBlock = some kk → w.heap.size ≤ kk ∧ G ≠ kk ∧ ∀ b ∈ [G + 1, w.heap.size + 2, w.heap.size + 1, wr.heap.size], b ≠ kk) := fun kk hk => by
        have := Hown.out.lt kk hk
        refine ⟨by omega, by omega, fun b hb => ?_⟩
        simp only [List.mem_cons, List.not_mem_nil, or_false] at hb
        omega
      have K0 : Hid (SK w wy [G + 1, w.heap.size + 2, w.heap.size + 1, wr.heap.size] G (!okTk xs y k) wy) := SK.refl By (fun b hb => by
        simp only [List.mem_cons, List.not_mem_nil, or_false] at hb
        omega) Hc'.out
      have Hne : Hid (∀ b ∈ [G + 1, w.heap.size + 2, w.heap.size + 1, wr.heap.size], b ≠ G) := fun b hb => by
        simp only [List.mem_cons, List.not_mem_nil, or_false] at hb
        omega
      have k2 := cell_of_row wy (G + 1) 2 _ _ _ Hb'.out
      have kf := frozen_of_row wy (G + 1) 2 _ _ Hb'.out
      obtain ⟨d0, d1, d2, d3, d4⟩ := HY.out.five
      obtain ⟨e0, e1, e2, e3, e4⟩ := HX'.out.five
      clear hWy by_ c0 c1 c2 c3 c4
      go_region_law (first | (go_simp; go_at_call 96; refine (l2cMulD_any G _ x y _ (by first | exact Hc' | exact Lib.hid (Cur.drew Hc'.out)) hxd.out Hy.out).mono ?_; rintro e wA ⟨rfl, cA', tA'⟩; have tA : Touch G (G + 1) wy wA := (by first | exact tA' | exact ⟨tA'.os, tA'.tape, tA'.output, tA'.size, tA'.block⟩); have KA := Lib.hid (SK.touch K0.out tA (by omega) Hne.out cA'); have HownA := Lib.hid (owns_touch Hown'.out tA (by omega)); have fA := KA.out.cells (b := G + 1) (by simp); have fB := KA.out.cells (b := wr.heap.size) (by simp); have fC := KA.out.cells (b := w.heap.size + 1) (by simp); have zA := tA.size; have zA1 : G + 1 < wA.heap.size := (by omega); have zA2 : wr.heap.size < wA.heap.size := (by omega); have zA3 : w.heap.size + 1 < wA.heap.size := (by omega); clear tA tA' cA') | (refine step_append_lies _ rfl _ _ _ rfl (G + 1 + 1) 52 i0 (dv 0 0 0 0 0) 5 40 Try.underlying65 hi hz0 hz1 hz2 rfl (by decide) (.slice A' (sclTk xs y k).length cap') (sclTk xs y k).length ((flatD (sclTk xs y k)).map (Value.int .i64)) rfl (by first | exact HownA.out.alloc _ | exact World.ownsRow.drew (HownA.out.alloc _) | exact (World.ownsRow.drew HownA.out).alloc _) _ 1 1 [.int .i64 (mulC x y).1.1, .int .i64 (mulC x y).1.2.1, .int .i64 (mulC x y).1.2.2.1, .int .i64 (mulC x y).1.2.2.2, .int .i64 (mulC x y).2] rfl rfl (World.news_of_block (heap_top _ _ (by simp))) (by intro u hu; simp at hu; rcases hu with rfl | rfl | rfl | rfl | rfl <;> rfl) (by decide) (by unfold maxLen; omega) (by omega) (by simp; omega) _ rfl ?_; intro g cap2 w3 hown' hgrow hat hlt3; have K3 := Lib.hid (by first | exact SK.grown (SK.alloc KA.out _) hgrow Hrow.out | exact SK.grown (SK.drew (SK.alloc KA.out _)) hgrow Hrow.out : SK w wy [G + 1, w.heap.size + 2, w.heap.size + 1, wr.heap.size] G _ w3); have hb3 := Lib.hid (K3.out.row (by simp) Hb'.out); have hz3 := Lib.hid (K3.out.row (by simp) Hz'.out); have ho' := Lib.hid hown'; clear hown' hgrow; have k3 := cell_of_row w3 (G + 1) 2 _ _ _ hb3.out; have k3f := frozen_of_row w3 (G + 1) 2 _ _ hb3.out))
      all_goals
        go_wp2
        go_roundg (xs.length - (k + 1))
        case measure => omega
        case rel =>
          refine ⟨k + 1, by go_num, by omega, ?_, ?_, (Below.heap_setCell _ _ _ _ (by dsimp only; omega)).trans hz3.out, ?_, K3.out.below.setCell (by dsimp only; omega) _⟩
          · rw [Hst.out.2]
            exact Made.push hb3.out ho'.out (by omega)
          · rw [Hst.out.1, Bool.not_and]
            exact K3.out.cur.far (by dsimp only; omega) _
          · refine (HX'.out.of_same (K3.out.same _ (by simp))).of_same ⟨by simpa [World.setCell] using (K3.out.same (w.heap.size + 1) (by simp)).1, Below.heap_setCell _ _ _ _ (by dsimp only; omega)⟩
    · have hkn : k = xs.length := by omega
      subst hkn
      have p0 := cell_of_row wr (G + 1) 0 _ _ _ Hb2.out
      have p1 := cell_of_row wr (G + 1) 1 _ _ _ Hb2.out
      have p2 := cell_of_row wr (G + 1) 2 _ _ _ Hb2.out
      have q0 := cell_of_row wr (w.heap.size + 2) 0 _ _ _ Hz.out
      have q1 := cell_of_row wr (w.heap.size + 2) 1 _ _ _ Hz.out
      have q2 := cell_of_row wr (w.heap.size + 2) 2 _ _ _ Hz.out
      have qf := fun o => frozen_of_row wr (w.heap.size + 2) o _ _ Hz.out
      have Hl : Hid (sclL R C xs y = sclTk xs y xs.length ∧ okM C (R * C) (sclOk C xs y) = okTk xs y xs.length) := by
        refine ⟨?_, ?_⟩
        · rw [scl_list y Hlen.out, sclTk, List.take_length]
        · rw [scl_ok y Hlen.out Hall.out Hy.out, okTk, List.take_length]
      rcases hall : okTk xs y xs.length with _ | _
      · have Hno : Hid (sclAll R C xs y = false) := by
          show sclAll R C xs y = false
          simp [sclAll, Hl.out.2, hall]
        rw [hall] at Hc
        go_wp2_with fail
        refine (l2cMatrix_f G _ _ _ _ _ _ Hc).mono ?_
        rintro e w4 ⟨rfl, b4⟩
        obtain ⟨b4c, b4f⟩ := bcell b4
        have z4 := b4.size
        have B4 := hb.trans (b4.mono zb)
        have y40 : w.heap.size + 2 < w4.heap.size := by omega
        go_wp2
        refine bodyPost_ret (by simp [results, Try.results48, go_sem, b4c, zz0, q0, q1, q2]) rfl (MRes.no Hno.out ?_)
        go_grown
      · have Hyes : Hid (sclAll R C xs y = true) := by
          show sclAll R C xs y = true
          simp [sclAll, Hl.out.2, hall, Hok.out, Hy.out]
        rw [hall] at Hc
        go_wp2_with fail
        refine (l2cMatrix_t G _ _ _ _ _ _ Hc).mono ?_
        rintro e w4 ⟨rfl, b4⟩
        obtain ⟨b4c, b4f⟩ := bcell b4
        have z4 := b4.size
        have B4 := hb.trans (b4.mono zb)
        have y40 : w.heap.size + 2 < w4.heap.size := by omega
        have hrl : sclL (Int.toNat R) (Int.toNat C) xs y = sclTk xs y xs.length := Hl.out.1
        go_wp2
        rw [hrl]
        refine bodyPost_ret (by simp [results, Try.results48, go_sem, b4c, zz0, q0, q1, q2]) rfl (MRes.yes (A := A') (cap := cap') Hyes.out ?_ ?_)
        · refine FlatIn.mono (lo := G + 1 + 1) (hi := wr.heap.size) ?_ (by omega) (by go_size) (Nat.le_refl _)
          repeat (refine FlatIn.setFar ?_ (by dsimp only; omega) _)
          exact (FlatIn.of_owns Hown.out rfl).below b4 (Nat.le_refl _)
        · go_grown
end Go.Proofs.Ytcmkkjdleihjfaa
