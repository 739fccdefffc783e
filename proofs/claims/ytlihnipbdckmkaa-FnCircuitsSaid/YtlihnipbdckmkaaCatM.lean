/- Concat of the program. -/
import Derived.Test.YtlihnipbdckmkaaGrow
import Derived.Test.YtlihnipbdckmkaaCatT
import Derived.Deep.RegionWith
namespace Go.Proofs.Ytlihnipbdckmkaa
open Go.RowKit

def part (xs ys : List G3) (k : Nat) : List G3 := if k = 0 then [] else if k = 1 then xs else xs ++ ys

set_option maxRecDepth 100000 in
set_option maxHeartbeats 8000000 in
theorem catSl_any (G : Nat) (A : Option Addr) (cap : Nat) (xs : List G3) (A2 : Option Addr) (cap2 : Nat) (ys : List G3) (t : TypeId) (w : World) (hn : xs.length ≤ 400) (hn2 : ys.length ≤ 400) (hG : Hid (w.heap[G]? = some (.cells #[.slice A xs.length cap, .slice A2 ys.length cap2] t (0, 0)))) (hx : Hid (FlatAt w A (flatG xs))) (hy : Hid (FlatAt w A2 (flatG ys))) :
    Calls Try.prog 47 #[.slice (some ⟨G, 0, none⟩) 2 2] w fun e w' => ∃ (A' : Option Addr) (cap' : Nat), e = .returned (.slice A' (xs ++ ys).length cap') ∧ FlatIn w' A' (flatG (xs ++ ys)) w.heap.size w'.heap.size ∧ Below w.heap.size w w' := by
  obtain ⟨i0, hi, hz0, hz1, hz2⟩ := info_parts Try.infoGate
  have hGl := (Array.getElem?_eq_some_iff.1 hG.out).1
  have g0 := cell_of_row w G 0 _ _ _ hG.out
  have g1 := cell_of_row w G 1 _ _ _ hG.out
  obtain ⟨N, hN⟩ : ∃ N, N = xs.length + ys.length := ⟨_, rfl⟩
  have HN := Lib.hid hN
  have hN8 : N ≤ 800 := by omega
  have hNi : (xs.length : Int) + (ys.length : Int) = (N : Int) := by omega
  have wN : RowKit.wrap64 (N : Int) = (N : Int) := IntWalk.wrap64_in _ (by omega)
  have wX : RowKit.wrap64 (xs.length : Int) = (xs.length : Int) := IntWalk.wrap64_in _ (by omega)
  have nX : decide ((xs.length : Int) < 0) = false := by simp
  have nN : decide ((N : Int) < 0) = false := by simp
  clear hN
  have HN8 := Lib.hid hN8
  have Hn := Lib.hid hn
  have Hn2 := Lib.hid hn2
  clear hN8 hn hn2
  go_enter Try.func47, Try.ntmps47
  go_wp2_with fail
  go_loop [3, 11] (fun s i => (i = .int .i64 0 ∧ s = .int .i64 0) ∨ (i = .int .i64 1 ∧ s = .int .i64 (xs.length : Int)) ∨ (i = .int .i64 2 ∧ s = .int .i64 (N : Int))) (fun _ i => 2 - (intOf i).toNat)
  case atStart => exact .inl ⟨rfl, rfl⟩
  case round =>
    rcases hrel with ⟨rfl, rfl⟩ | ⟨rfl, rfl⟩ | ⟨rfl, rfl⟩
    · go_wp2
      go_round
      case rel => exact .inr (.inl ⟨rfl, by rw [wX]⟩)
      case measure => simp [intOf]
    · go_wp2
      go_round
      case rel => exact .inr (.inr ⟨rfl, by rw [wN]⟩)
      case measure => simp [intOf]
    · go_wp2_with fail
      refine (grow_any N _ (by have := HN8.out; omega)).mono ?_
      rintro e w1 ⟨A1, cap1, rfl, hown, b1⟩
      have Hown := Lib.hid hown
      have B1 := Lib.hid b1
      clear hown b1
      have z1 := B1.out.size
      go_wp2_with fail
      go_loopw [6, 27] (fun v i wr => ∃ (k : Nat) (A' : Option Addr) (cap' : Nat), k ≤ 2 ∧ i = .int .i64 k ∧ v = .slice A' (part xs ys k).length cap' ∧ wr.ownsRow w.heap.size 29 3 (.slice A' (part xs ys k).length cap') (part xs ys k).length ((flatG (part xs ys k)).map (Value.int .i64)) ∧ Below w.heap.size w wr) (fun _ i _ => 2 - (intOf i).toNat)
      case atStart => exact ⟨0, A1, cap1, by omega, rfl, rfl, Hown.out, B1.out⟩
      case round =>
        obtain ⟨k, A', cap', hk, rfl, rfl, hown, hb⟩ := hrel
        have Ho := Lib.hid hown
        have zb := hb.size
        have Hfx := Lib.hid (hx.out.below hb)
        have Hfy := Lib.hid (hy.out.below hb)
        have gb := (hb.block G hGl).trans hG.out
        have g0' := cell_of_row wr G 0 _ _ _ gb
        have g1' := cell_of_row wr G 1 _ _ _ gb
        clear hown gb
        have h012 : k = 0 ∨ k = 1 ∨ k = 2 := by omega
        rcases h012 with rfl | rfl | rfl
        · have e0 : part xs ys 0 = [] := rfl
          rw [e0] at Ho ⊢
          go_wp2_with (at_builtin; refine wpList_append_flat _ rfl _ _ 36 rfl w.heap.size 29 i0 (tv 0 0 0) 3 24 Try.underlying36 hi hz0 hz1 hz2 rfl (by decide) (.slice A' 0 cap') 0 [] rfl Ho.out A xs.length cap (flatG xs) rfl (flatG_len xs) Hfx.out ?c3 ?c4 ?c5 ?_)
          case c3 => have := Hn.out; unfold maxLen; omega
          case c4 => have := Hn.out; omega
          case c5 => omega
          intro v' w4 hown' hgrow
          obtain ⟨A4, cap4, rfl⟩ := ownsRow_form _ hown'
          have B4 := Lib.hid (Below.grown hb hgrow (by omega) (fun kk hk => (Ho.out.lt kk hk).1))
          have Ho4 : Hid (w4.ownsRow w.heap.size 29 3 (.slice A4 (part xs ys 1).length cap4) (part xs ys 1).length ((flatG (part xs ys 1)).map (Value.int .i64))) := by
            show World.ownsRow _ _ _ _ _ _ _
            have e1 : part xs ys 1 = xs := rfl
            rw [e1]
            simpa using hown'
          clear hown' hgrow
          go_wp2
          go_roundw
          case rel => exact ⟨1, A4, cap4, by omega, rfl, by show Value.slice _ _ _ = Value.slice _ _ _; congr 1; try (show 0 + xs.length = xs.length; omega), Ho4.out, B4.out⟩
          case measure => simp [intOf]
        · have e0 : part xs ys 1 = xs := rfl
          rw [e0] at Ho ⊢
          go_wp2_with (at_builtin; refine wpList_append_flat _ rfl _ _ 36 rfl w.heap.size 29 i0 (tv 0 0 0) 3 24 Try.underlying36 hi hz0 hz1 hz2 rfl (by decide) (.slice A' xs.length cap') xs.length ((flatG xs).map (Value.int .i64)) rfl Ho.out A2 ys.length cap2 (flatG ys) rfl (flatG_len ys) Hfy.out ?c3 ?c4 ?c5 ?_)
          case c3 => have := Hn.out; have := Hn2.out; unfold maxLen; omega
          case c4 => have := Hn.out; have := Hn2.out; omega
          case c5 => omega
          intro v' w4 hown' hgrow
          obtain ⟨A4, cap4, rfl⟩ := ownsRow_form _ hown'
          have B4 := Lib.hid (Below.grown hb hgrow (by omega) (fun kk hk => (Ho.out.lt kk hk).1))
          have Ho4 : Hid (w4.ownsRow w.heap.size 29 3 (.slice A4 (part xs ys 2).length cap4) (part xs ys 2).length ((flatG (part xs ys 2)).map (Value.int .i64))) := by
            show World.ownsRow _ _ _ _ _ _ _
            have e1 : part xs ys 2 = xs ++ ys := rfl
            rw [e1, flatG_append, List.map_append, List.length_append]
            exact hown'
          clear hown' hgrow
          go_wp2
          go_roundw
          case rel => exact ⟨2, A4, cap4, by omega, rfl, by show Value.slice _ _ _ = Value.slice _ _ _; congr 1; show xs.length + ys.length = (xs ++ ys).length; rw [List.length_append], Ho4.out, B4.out⟩
          case measure => simp [intOf]
        · have e0 : part xs ys 2 = xs ++ ys := rfl
          rw [e0] at Ho ⊢
          go_wp2
          go_ret
          exact ⟨A', cap', rfl, FlatIn.of_owns Ho.out rfl, hb⟩

theorem cOk_cat {q : Int} {xs ys : List G3} (h : cOk q xs = true) (h' : cOk q ys = true) : cOk q (xs ++ ys) = catOk q xs q ys := by
  obtain ⟨h1, _, h3⟩ := cOk_parts h
  obtain ⟨_, _, h3'⟩ := cOk_parts h'
  have e : cOk q (xs ++ ys) = decide (xs.length + ys.length ≤ 400) := by
    unfold cOk
    rw [h1, List.all_append, h3, h3', List.length_append]
    simp
  rw [e, catOk, h, h']
  simp

set_option maxRecDepth 100000 in
set_option maxHeartbeats 8000000 in
theorem implCat_any (q : Int) (A : Option Addr) (cap : Nat) (xs : List G3) (q' : Int) (A2 : Option Addr) (cap2 : Nat) (ys : List G3) (w : World) (hn : xs.length ≤ 1048576) (hn2 : ys.length ≤ 1048576) (hx : Hid (FlatAt w A (flatG xs))) (hy : Hid (FlatAt w A2 (flatG ys))) :
    Calls Try.prog 13 #[cv q A xs.length cap, cv q' A2 ys.length cap2] w fun e w' => CRes e w w' (catOk q xs q' ys) q (xs ++ ys) := by
  rcases hok : cOk q xs with _ | _
  · have Hno : Hid (catOk q xs q' ys = false) := by show catOk _ _ _ _ = false; simp [catOk, hok]
    go_enter Try.func13, Try.ntmps13
    go_wp2_with fail
    refine (implValidC_any q A cap xs _ hn (((hx.out.alloc _).alloc _).alloc _)).mono ?_
    rintro e w1 ⟨rfl, b1⟩
    obtain ⟨b1c, b1f⟩ := bcell b1
    have z1 := b1.size
    try simp only [World.size_alloc] at z1
    have B1 : Below w.heap.size w w1 := Below.chain (Below.refl _ _) (by go_grown) b1 (by go_size)
    have y10 : w.heap.size < w1.heap.size := by omega
    have y11 : w.heap.size + 1 < w1.heap.size := by omega
    have y12 : w.heap.size + 2 < w1.heap.size := by omega
    rw [hok]
    go_wp2
    refine bodyPost_ret (by simp [results, Try.results13, go_sem, b1c]) rfl (CRes.no Hno.out ?_)
    go_grown
  rcases hok2 : cOk q' ys with _ | _
  · have Hno : Hid (catOk q xs q' ys = false) := by show catOk _ _ _ _ = false; simp [catOk, hok2]
    go_enter Try.func13, Try.ntmps13
    go_wp2_with fail
    refine (implValidC_any q A cap xs _ hn (((hx.out.alloc _).alloc _).alloc _)).mono ?_
    rintro e w1 ⟨rfl, b1⟩
    obtain ⟨b1c, b1f⟩ := bcell b1
    have z1 := b1.size
    try simp only [World.size_alloc] at z1
    have B1 : Below w.heap.size w w1 := Below.chain (Below.refl _ _) (by go_grown) b1 (by go_size)
    have y10 : w.heap.size < w1.heap.size := by omega
    have y11 : w.heap.size + 1 < w1.heap.size := by omega
    have y12 : w.heap.size + 2 < w1.heap.size := by omega
    rw [hok]
    go_wp2_with fail
    refine (implValidC_any q' A2 cap2 ys _ hn2 (by refine hy.out.below B1)).mono ?_
    rintro e w2 ⟨rfl, b2⟩
    have z2 := b2.size
    try simp only [World.size_alloc] at z2
    have C2 := Below.chain b1 (by go_grown) b2 (by go_size)
    have B2 : Below w.heap.size w w2 := Below.chain B1 (by go_grown) b2 (by go_size)
    obtain ⟨b2c, b2f⟩ := bcell b2
    obtain ⟨C2c, C2f⟩ := bcellB C2
    have y20 : w.heap.size < w2.heap.size := by omega
    have y21 : w.heap.size + 1 < w2.heap.size := by omega
    have y22 : w.heap.size + 2 < w2.heap.size := by omega
    try (have v21 : w1.heap.size < w2.heap.size := by omega)
    rw [hok2]
    go_wp2
    refine bodyPost_ret (by simp [results, Try.results13, go_sem, C2c]) rfl (CRes.no Hno.out ?_)
    go_grown
  have Hl1 := Lib.hid (cOk_parts hok).2.1
  have Hl2 := Lib.hid (cOk_parts hok2).2.1
  have Hok := Lib.hid hok
  have Hok2 := Lib.hid hok2
  clear hok hok2
  by_cases hq : q = q'
  · subst hq
    obtain ⟨us, hus⟩ : ∃ us, us = xs ++ ys := ⟨_, rfl⟩
    have Hus := Lib.hid hus
    have hul : us.length ≤ 1048576 := by have := Hl1.out; have := Hl2.out; rw [hus, List.length_append]; omega
    have Hres : Hid (cOk q us = catOk q xs q ys) := by rw [hus]; exact cOk_cat Hok.out Hok2.out
    rw [← hus]
    clear hus
    go_enter Try.func13, Try.ntmps13
    go_wp2_with fail
    refine (implValidC_any q A cap xs _ hn (((hx.out.alloc _).alloc _).alloc _)).mono ?_
    rintro e w1 ⟨rfl, b1⟩
    obtain ⟨b1c, b1f⟩ := bcell b1
    have z1 := b1.size
    try simp only [World.size_alloc] at z1
    have B1 : Below w.heap.size w w1 := Below.chain (Below.refl _ _) (by go_grown) b1 (by go_size)
    have y10 : w.heap.size < w1.heap.size := by omega
    have y11 : w.heap.size + 1 < w1.heap.size := by omega
    have y12 : w.heap.size + 2 < w1.heap.size := by omega
    rw [Hok.out]
    go_wp2_with fail
    refine (implValidC_any q A2 cap2 ys _ hn2 (by refine hy.out.below B1)).mono ?_
    rintro e w2 ⟨rfl, b2⟩
    have z2 := b2.size
    try simp only [World.size_alloc] at z2
    have C2 := Below.chain b1 (by go_grown) b2 (by go_size)
    have B2 : Below w.heap.size w w2 := Below.chain B1 (by go_grown) b2 (by go_size)
    obtain ⟨b2c, b2f⟩ := bcell b2
    obtain ⟨C2c, C2f⟩ := bcellB C2
    have y20 : w.heap.size < w2.heap.size := by omega
    have y21 : w.heap.size + 1 < w2.heap.size := by omega
    have y22 : w.heap.size + 2 < w2.heap.size := by omega
    try (have v21 : w1.heap.size < w2.heap.size := by omega)
    rw [Hok2.out]
    have HB2 := Lib.hid B2
    have n0 : w2.cell? ⟨w.heap.size, 0, none⟩ = some (.int .i64 q) := by go_simp
    have n1 : w2.cell? ⟨w.heap.size, 1, none⟩ = some (.slice A xs.length cap) := by go_simp
    have n2' : w2.cell? ⟨w.heap.size + 1, 0, none⟩ = some (.int .i64 q) := by go_simp
    have n2 : w2.cell? ⟨w.heap.size + 1, 1, none⟩ = some (.slice A2 ys.length cap2) := by go_simp
    have r0 : w2.cell? ⟨w.heap.size + 1 + 1, 0, none⟩ = some (.int .i64 0) := by go_simp
    have r1 : w2.cell? ⟨w.heap.size + 1 + 1, 1, none⟩ = some (.slice none 0 0) := by go_simp
    have rf : ∀ o, w2.frozen? ⟨w.heap.size + 1 + 1, o, none⟩ = false := fun o => by go_simp
    have yy2 : w.heap.size + 1 + 1 < w2.heap.size := by omega
    clear b1 b1c b1f b2 b2c b2f C2 C2c C2f B1
    go_wp2_with fail
    have Hcat : Hid (∀ W : World, W = (w2.alloc (.cells #[.slice A xs.length cap, .slice A2 ys.length cap2] 36)).drew → Calls Try.prog 47 #[.slice (some ⟨w2.heap.size, 0, none⟩) 2 2] W fun e w' => ∃ (A' : Option Addr) (cap' : Nat), e = .returned (.slice A' us.length cap') ∧ FlatIn w' A' (flatG us) W.heap.size w'.heap.size ∧ Below W.heap.size W w') := by
      intro W hW
      subst hW
      rw [Hus.out]
      exact catSl_any w2.heap.size A cap xs A2 cap2 ys 36 _ Hl1.out Hl2.out (heap_top w2 (.cells #[.slice A xs.length cap, .slice A2 ys.length cap2] 36) rfl) (FlatAt.drew ((hx.out.below HB2.out).alloc _)) (FlatAt.drew ((hy.out.below HB2.out).alloc _))
    go_region_with (first | (go_at_call 47; refine (Hcat.out _ rfl).mono ?_; rintro e w5 ⟨A', cap', rfl, hf5, b5⟩; obtain ⟨b5c, b5f⟩ := bcell b5; have s5 : w2.heap.size + 1 ≤ w5.heap.size := (by have h := b5.size; simp at h; omega); have y50 : w.heap.size < w5.heap.size := (by omega); have y52 : w.heap.size + 1 + 1 < w5.heap.size := (by omega); have y5a : w.heap.size < w2.heap.size + 1 := (by omega); have y5b : w.heap.size + 1 + 1 < w2.heap.size + 1 := (by omega); have Hf5 := Lib.hid hf5; clear hf5) | (go_at_call 46; refine (circuitIf_any q A' cap' us _ hul Hf5.out.at).mono ?_; rintro e w6 hm; rw [Hres.out] at hm; obtain ⟨A6, cap6, q6, zs, rfl, hq6, hz6, hf6, b6⟩ := hm.form; obtain ⟨b6c, b6f⟩ := bcell b6; have s6 := b6.size; have He6 := Lib.hid (And.intro hq6 hz6); have Hf6 := Lib.hid hf6; clear hm hq6 hz6 hf6))
    all_goals
      have B5 : Below w.heap.size w w5 := HB2.out.trans (Below.trans ((Below.refl _ _).alloc HB2.out.size _).drew (b5.mono (by simp; omega)))
      have B6 : Below w.heap.size w w6 := B5.trans (b6.mono B5.size)
      have y6 : w.heap.size + 1 + 1 < w6.heap.size := by omega
      have c50 : w5.cell? ⟨w.heap.size + 1 + 1, 0, none⟩ = some (.int .i64 0) := (b5c _ _ (by simp; omega)).trans (by go_simp)
      have c51 : w5.cell? ⟨w.heap.size + 1 + 1, 1, none⟩ = some (.slice none 0 0) := (b5c _ _ (by simp; omega)).trans (by go_simp)
      clear b5 b6 Hcat
      go_wp2
      refine bodyPost_ret (by simp [results, Try.results13, go_sem, b6c, y52, c50, c51]) rfl (CRes.mk (A := A6) (cap := cap6) He6.out.1 He6.out.2 ?_ ?_)
      · refine FlatIn.mono (lo := w5.heap.size) (hi := w6.heap.size) ?_ (by omega) (by go_size) (Nat.le_refl _)
        repeat (refine FlatIn.setFar ?_ (by dsimp only; omega) _)
        exact Hf6.out
      · go_grown
  · have Hno : Hid (catOk q xs q' ys = false) := by show catOk _ _ _ _ = false; simp [catOk, hq]
    have fq : (q == q') = false := by simpa using hq
    have fq' : (q != q') = true := by simpa using hq
    clear hq
    go_enter Try.func13, Try.ntmps13
    go_wp2_with fail
    refine (implValidC_any q A cap xs _ hn (((hx.out.alloc _).alloc _).alloc _)).mono ?_
    rintro e w1 ⟨rfl, b1⟩
    obtain ⟨b1c, b1f⟩ := bcell b1
    have z1 := b1.size
    try simp only [World.size_alloc] at z1
    have B1 : Below w.heap.size w w1 := Below.chain (Below.refl _ _) (by go_grown) b1 (by go_size)
    have y10 : w.heap.size < w1.heap.size := by omega
    have y11 : w.heap.size + 1 < w1.heap.size := by omega
    have y12 : w.heap.size + 2 < w1.heap.size := by omega
    rw [Hok.out]
    go_wp2_with fail
    refine (implValidC_any q' A2 cap2 ys _ hn2 (by refine hy.out.below B1)).mono ?_
    rintro e w2 ⟨rfl, b2⟩
    have z2 := b2.size
    try simp only [World.size_alloc] at z2
    have C2 := Below.chain b1 (by go_grown) b2 (by go_size)
    have B2 : Below w.heap.size w w2 := Below.chain B1 (by go_grown) b2 (by go_size)
    obtain ⟨b2c, b2f⟩ := bcell b2
    obtain ⟨C2c, C2f⟩ := bcellB C2
    have y20 : w.heap.size < w2.heap.size := by omega
    have y21 : w.heap.size + 1 < w2.heap.size := by omega
    have y22 : w.heap.size + 2 < w2.heap.size := by omega
    try (have v21 : w1.heap.size < w2.heap.size := by omega)
    rw [Hok2.out]
    go_wp2
    refine bodyPost_ret (by simp [results, Try.results13, go_sem, C2c]) rfl (CRes.no Hno.out ?_)
    go_grown
end Go.Proofs.Ytlihnipbdckmkaa
